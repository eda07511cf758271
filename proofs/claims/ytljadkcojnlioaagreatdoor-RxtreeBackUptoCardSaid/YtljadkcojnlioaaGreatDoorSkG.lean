/- RxtreeBack: what Show tells of a valid tree, Parse reads as that tree, and what Parse takes is valid. Conditions: what came in is of bulk at most 1048576 (the form Upto); the library's tables hold what the text of the program lays. -/
import Derived.Test.YtljadkcojnlioaaGreatDoorSkF
set_option linter.unusedSectionVars false
set_option linter.unusedSimpArgs false
set_option linter.unusedVariables false
namespace Go.Proofs.YtljadkcojnlioaaGreatDoor
open Go.RowKit Go.W
section
variable {s : ByteArray} {bb : Bool}
theorem MD {x : Rx} {o : Nat} {st st' : St} (h : x.fine o st = some st') (hk : kW x.kind) : st'.2 = st.2 := by
  obtain ⟨-, hn, -, h1⟩ := oM h
  rw [hn.leaf hk, dJ] at h1
  cases h1
  unfold kW at hk
  show (if x.kind = 7 then _ else st.2) = st.2
  rw [if_neg (by omega)]
theorem QC {x : Rx} {o i : Nat} {ns : List ByteArray} (hn : NodeP x) (hl : kW x.kind) (h1 : x.kind ≠ 1) (hln : x.ln = true → bb = true) (h : At s i x.w) (rp : Prop) : Stp s o bb i x.w.length x ns ns rp := by
  have hf := (bV _).1 hn
  have k1 := hf.kind1
  have k2 := hf.kind2
  have hw : x.w = pN x.kind x.r x.ranges x.name := by
    unfold kW at hl
    rw [Rx.w_eq, hn.leaf (by unfold kW; exact hl), dI, List.append_nil, tX, if_neg (by omega), if_neg (by omega), List.append_nil]
  unfold kW at hl
  by_cases e2 : x.kind = 2
  · have hx := SW hn e2
    have e : x.w = lV x.r := by rw [hw, e2]; rfl
    rw [e] at h ⊢
    obtain ⟨b, l, hb, hfb⟩ := yT (hf.lit1 e2) (hf.lit2 e2)
    have hi : isB s i b := by rw [hb] at h; exact h.1
    have hp := lit_w (ex := nI s o) (bb := bb) (o := o) (ns := ns) (hf.lit1 e2) (hf.lit2 e2) h
    rw [← hx] at hp
    exact pM hi hfb (by rw [hb]; simp) hp
  by_cases e3 : x.kind = 3
  · have hx := SX hn e3
    have e : x.w = pJ x.ranges := by rw [hw, e3]; rfl
    rw [e] at h ⊢
    have hi := (NI (fl := FL bb) rfl (hn.cls e3) h).1
    have hp := cls_w (ex := nI s o) (bb := bb) (o := o) (ns := ns) (hn.cls e3) h
    rw [← hx] at hp
    refine pM hi (by decide) ?_ hp
    unfold pJ; split <;> simp [KC]
  have hx := JR hn (by omega)
  have fin : ∀ (L : List Nat) (b : Nat) (M : List Nat), pN x.kind x.r x.ranges x.name = L → L = b :: M → Fb b → (At s i L → eL s (nI s o) ⟨i, FL bb, o, ns⟩ = .ok ([rxK x.kind], ⟨i + L.length, FL bb, o, ns⟩)) → Stp s o bb i x.w.length x ns ns rp := by
    intro L b M hL hb hfb hp
    rw [hw, hL] at h ⊢
    have hp' := hp h
    rw [← hx] at hp'
    exact pM (by rw [hb] at h; exact h.1) hfb (by rw [hb]; simp) hp'
  by_cases e8 : x.kind = 8
  · exact fin [92, 65] 92 _ (by rw [e8]; rfl) rfl (by decide) (fun h => by rw [e8]; exact kA_w h)
  by_cases e9 : x.kind = 9
  · exact fin [92, 122] 92 _ (by rw [e9]; rfl) rfl (by decide) (fun h => by rw [e9]; exact kz_w h)
  by_cases e10 : x.kind = 10
  · have hb : bb = true := hln (by rw [Rx.ln_eq, decide_eq_true (.inl e10)]; rfl)
    subst hb
    exact fin [94] 94 _ (by rw [e10]; rfl) rfl (by decide) (fun h => by rw [e10]; exact khat_w h)
  by_cases e11 : x.kind = 11
  · have hb : bb = true := hln (by rw [Rx.ln_eq, decide_eq_true (.inr e11)]; rfl)
    subst hb
    exact fin [36] 36 _ (by rw [e11]; rfl) rfl (by decide) (fun h => by rw [e11]; exact kdol_w h)
  by_cases e12 : x.kind = 12
  · exact fin [92, 98] 92 _ (by rw [e12]; rfl) rfl (by decide) (fun h => by rw [e12]; exact kb_w h)
  · have e13 : x.kind = 13 := by omega
    exact fin [92, 66] 92 _ (by rw [e13]; rfl) rfl (by decide) (fun h => by rw [e13]; exact kB_w h)
theorem lns_kid {l : List Rx} {y : Rx} (hy : y ∈ l) (h : y.ln = true) : lns l = true := by
  induction l with
  | nil => cases hy
  | cons x l ih =>
    rw [lns]
    rcases List.mem_cons.1 hy with rfl | h9
    · rw [h]; rfl
    · rw [ih h9]; simp
theorem SV {x y : Rx} (hy : y ∈ x.kids) (h : y.ln = true) : x.ln = true := by rw [Rx.ln_eq, lns_kid hy h]; simp
theorem rdw {x : Rx} (hg : Good x) (hl : x.ln = true → bb = true) : RdW s bb x := by
  induction hg with
  | @mk x hn hc hk ih =>
    have hf := (bV _).1 hn
    have k1 := hf.kind1
    have k2 := hf.kind2
    have hkid : ∀ y, y ∈ x.kids → RdW s bb y := fun y hy => ih y hy (fun h => hl (SV hy h))
    have hst : ∀ (o : Nat) (st st' : St) (i : Nat), x.fine o st = some st' → At s i x.w → x.kind ≠ 1 → x.kind ≠ 4 → x.kind ≠ 5 → (x.kind = 6 → ¬ isB s (i + x.w.length) 63) → Stp s o bb i x.w.length x st.2 st'.2 (x.kind ≠ 6) := by
      intro o st st' i hfi h n1 n4 n5 hq
      obtain ⟨-, -, hgo, hfk⟩ := oM hfi
      by_cases e6 : x.kind = 6
      · obtain ⟨y, hy⟩ := List.length_eq_one_iff.1 (hn.rep e6).2.2.2
        rw [hy, e6, if_neg (by decide), if_neg (by decide)] at hfk
        obtain ⟨st1, f1, f2⟩ := oI hfk
        rw [dJ] at f2
        cases f2
        have hw : x.w = brW (Brk y.kind 6) y.w ++ (gJ x.min x.max ++ (if x.lazy = true then [63] else [])) := by
          rw [Rx.w_eq, e6, hy, show pN 6 x.r x.ranges x.name = [] from rfl, List.nil_append, dI, dI, show mJ 6 true = [] from rfl, List.nil_append, List.append_nil]; rfl
        rw [hw] at h hq ⊢
        obtain ⟨h1, h2⟩ := At.app.1 h
        have hb0 := pX (p := Brk y.kind 6) (l := y.w) fun hnb => by
          unfold Brk at hnb
          exact (xP (hk y (by rw [hy]; simp))).1 (by omega) (by omega) (by omega)
        obtain ⟨b, m, hb, hfb⟩ := hb0
        have hi : i ≤ s.size := by rw [hb] at h1; have := h1.1.1; omega
        have ks := MI (hkid y (by rw [hy]; simp)) f1 (.inr rfl) h1 hi (fun hnb h9 => by unfold Brk at hnb; omega)
        have ks' : Stp s o bb i (brW (Brk y.kind 6) y.w).length y st.2 st'.2 True := fun l ah f hf2 => by
          obtain ⟨f', ah', a1, a2, a3⟩ := ks l ah f hf2
          exact ⟨f', ah', a1, fun _ => a2 (.inl rfl), a3⟩
        have hr := stp_rep ks' h2 (hn.rep e6).1 (hn.rep e6).2.1 (hn.rep e6).2.2.1 (by
          have := hq e6
          rw [List.length_append, ← Nat.add_assoc] at this
          exact this)
        rw [← rep_is hn e6 hy] at hr
        rw [List.length_append]
        intro l ah f hf2
        obtain ⟨f', ah', a1, a2, a3⟩ := hr l ah f hf2
        exact ⟨f', ah', a1, fun h9 => (h9 e6).elim, a3⟩
      · by_cases e7 : x.kind = 7
        · obtain ⟨y, hy⟩ := List.length_eq_one_iff.1 (hn.grp e7)
          rw [hy, e7, if_pos rfl, if_pos rfl] at hfk
          obtain ⟨st1, f1, f2⟩ := oI hfk
          rw [dJ] at f2
          cases f2
          rw [if_neg (by unfold Brk; omega), Int.add_zero] at f1
          have hgo' := hgo e7
          have hw : x.w = kU x.name ++ y.w ++ [41] := by
            rw [Rx.w_eq, e7, hy, dI, dI, show mJ 7 true = [] from rfl, List.nil_append, List.append_nil, brW, if_neg (by unfold Brk; omega)]; rfl
          rw [hw] at h ⊢
          have ho := xQ (o := o + 1) (by push_cast; exact f1)
          have h' := h
          rw [List.append_assoc] at h'
          obtain ⟨h1, h2⟩ := At.app.1 h'
          obtain ⟨h3, h4, -⟩ := At.app.1 h2
          have hx := (hkid y (by rw [hy]; simp)).exp (o + 1) _ st' (i + (kU x.name).length) (by push_cast; exact f1) h3 (.inr h4) (by have := h4.1; omega)
          have hcap : x.cap = (st.2.length : Int) + 1 := hgo'.1
          have := group_w (rp := x.kind ≠ 6) (y := y) (ns' := st'.2) ho (by rw [← hcap]; exact hgo') h (fun b m hb => (xP (hk y (by rw [hy]; simp))).2 b m hb) hx
          rw [← hcap, ← grp_is hn e7 hy] at this
          exact this
        · have hlf : kW x.kind := by unfold kW; omega
          rw [MD hfi hlf]
          exact QC hn hlf n1 hl h _
    have hrow : ∀ (o : Nat) (st st' : St) (i f : Nat), x.fine o st = some st' → At s i x.w → x.kind ≠ 5 → Rend s (i + x.w.length) → s.size < i + f → hY s (nI s o) f [] false ⟨i, FL bb, o, st.2⟩ = .ok (x, ⟨i + x.w.length, FL bb, o, st'.2⟩) := by
      intro o st st' i f hfi h n5 he hf2
      by_cases e1 : x.kind = 1
      · have hx := JR hn (.inl e1)
        rw [e1] at hx
        have hs2 := MD hfi (by unfold kW; omega)
        have hw : x.w = [] := by rw [hx]; rfl
        rw [hw] at he ⊢
        rw [mE (st := ⟨i, FL bb, o, st.2⟩) he.end, hs2, hx]; rfl
      · by_cases e4 : x.kind = 4
        · obtain ⟨-, -, -, hfk⟩ := oM hfi
          rw [e4, if_neg (by decide), if_neg (by decide)] at hfk
          have hw : x.w = dI 4 true x.kids := by rw [Rx.w_eq, e4, show pN 4 x.r x.ranges x.name = [] from rfl, List.nil_append, show tX 4 x.min x.max x.lazy = [] from rfl, List.append_nil]
          have h2 := hn.two (.inl e4)
          have hxr := IQ hn (.inl e4)
          rw [hw] at h he ⊢
          have hi : i ≤ s.size := by
            obtain ⟨b, l, hb⟩ : ∃ b l, dI 4 true x.kids = b :: l := by
              cases hks : x.kids with
              | nil => rw [hks] at h2; simp at h2
              | cons y ys =>
                obtain ⟨b, m, hb, -⟩ := pX (p := Brk y.kind 4) (l := y.w) fun hnb => by
                  unfold Brk at hnb
                  exact (xP (hk y (by rw [hks]; simp))).1 (by omega) (by omega) (by omega)
                exact ⟨b, _, by rw [dI, show mJ 4 true = [] from rfl, List.nil_append, hb]; rfl⟩
            rw [hb] at h; have := h.1.1; omega
          rw [QN x.kids true _ st' i f [] false (fun y hy => ⟨hkid y hy, hk y hy⟩) hfk h hi he hf2, List.nil_append]
          rw [e4] at hxr
          have hrp : oC 4 x.kids = x := by
            rw [hxr]
            match x.kids, h2 with
            | a :: b :: l, _ => rfl
          rw [hrp]
        · obtain ⟨f', ah', a1, a2, a3⟩ := hst o st st' i hfi h e1 e4 n5 (fun _ => he.nq) [] false f hf2
          rw [a3, mE (st := ⟨_, FL bb, o, st'.2⟩) he.end]; rfl
    refine ⟨hst, hrow, fun o st st' i hfi h he hi => ?_⟩
    rw [exAt_eq s (xQ hfi)]
    by_cases e5 : x.kind = 5
    · obtain ⟨-, -, -, hfk⟩ := oM hfi
      rw [e5, if_neg (by decide), if_neg (by decide)] at hfk
      have h2 := hn.two (.inr e5)
      have hxr := IQ hn (.inr e5)
      have hw : x.w = dI 5 true x.kids := by rw [Rx.w_eq, e5, show pN 5 x.r x.ranges x.name = [] from rfl, List.nil_append, show tX 5 x.min x.max x.lazy = [] from rfl, List.append_nil]
      rw [hw] at h he ⊢
      cases hks : x.kids with
      | nil => rw [hks] at h2; simp at h2
      | cons y ys =>
        rw [hks] at h he hfk
        obtain ⟨st1, f1, f2⟩ := oI hfk
        have hw2 : dI 5 true (y :: ys) = brW (Brk y.kind 5) y.w ++ dI 5 false ys := by rw [dI, show mJ 5 true = [] from rfl, List.nil_append]
        rw [hw2] at h he ⊢
        obtain ⟨h3, h4⟩ := At.app.1 h
        rw [List.length_append, ← Nat.add_assoc] at he
        have hre : Rend s (i + (brW (Brk y.kind 5) y.w).length) := by
          cases ys with
          | nil => rw [dI] at he; exact he.r
          | cons z zs => rw [dI, show mJ 5 false = [124] from rfl, List.append_assoc] at h4; exact .inr (.inl h4.1)
        have hle := DF h3 hi
        rw [vS (show oV s (nI s o) _ = _ from NQ (hkid y (by rw [hks]; simp)) f1 h3 hi hre)]
        rw [KJ ys st1 st' _ (s.size + 1) [y] (fun z hz => hkid z (by rw [hks]; simp [hz])) f2 h4 hle he (by omega)]
        rw [List.length_append, Nat.add_assoc]
        have hrp : oC 5 ([y] ++ ys) = x := by
          rw [hxr, e5, hks]
          rw [hks] at h2
          match ys, h2 with
          | b :: l, _ => rfl
        rw [hrp]
    · exact GR (hrow o st st' i (s.size + 1) hfi h e5 he.r (by omega)) he.nb
end
def Uf (L : List Nat) : Prop := ∃ l, VR l ∧ L = frm l
theorem Uf.nil : Uf [] := ⟨[], (fun x hx => by cases hx), rfl⟩
theorem Uf.app {a b : List Nat} : Uf a → Uf b → Uf (a ++ b) := fun ⟨l, h1, h2⟩ ⟨m, h3, h4⟩ => ⟨l ++ m, fun x hx => (List.mem_append.1 hx).elim (h1 x) (h3 x), by rw [MP, h2, h4]⟩
theorem Uf.form {c : Int} (h : IsR c) : Uf (eB c) := ⟨[c], fun x hx => by simp at hx; subst hx; exact h, by show _ = eB c ++ []; rw [List.append_nil]⟩
theorem Uf.asc : ∀ {L : List Nat}, (∀ b, b ∈ L → b < 128) → Uf L
  | [], _ => Uf.nil
  | b :: L, h => by
    have hb := h b (by simp)
    have h1 : Uf (eB (b : Int)) := Uf.form ⟨by omega, by omega, by omega⟩
    rw [pY (by omega) (by omega)] at h1
    exact h1.app (Uf.asc fun x hx => h x (by simp [hx]))
theorem TH (n : Nat) : ∀ b, b ∈ hexL n → b < 128 := by
  obtain ⟨d, ds, e1, e2, e3, -⟩ := MO n
  have hx1 : ∀ d, d < 16 → hx d < 128 := by decide
  rw [e1]
  intro b hb
  rcases List.mem_cons.1 hb with rfl | hb
  · exact hx1 d e2
  · obtain ⟨e, he, rfl⟩ := List.mem_map.1 hb
    exact hx1 e (e3 e he)
theorem MN (c : Int) : Uf (oL c) := ((Uf.asc (by decide)).app (Uf.asc (TH _))).app (Uf.asc (by decide))
theorem litW_uf {c : Int} (h0 : 0 ≤ c) (h1 : c ≤ 1114111) : Uf (lV c) := by
  rw [lV]
  split
  · exact MN c
  · rename_i ho
    split
    · rename_i hs
      exact Uf.asc fun b hb => by simp at hb; rcases hb with rfl | rfl <;> omega
    · exact Uf.form ⟨h0, h1, by unfold Odd at ho; omega⟩
theorem NF {c : Int} (h0 : 0 ≤ c) : Uf (lE c) := by
  rw [lE]
  split
  · rename_i he; exact Uf.form ⟨h0, by have := he.1; omega, by have := he.1; omega⟩
  · exact MN c
theorem xT (n : Nat) : Uf (gM n) := by
  obtain ⟨ds, e1, e2, e3, -⟩ := NG n
  rw [e1]
  exact Uf.asc fun b hb => by obtain ⟨e, he, rfl⟩ := List.mem_map.1 hb; have := e3 e he; omega
theorem timW_uf (lo hi : Int) : Uf (gJ lo hi) := by
  have a : ∀ L : List Nat, (∀ b, b ∈ L → b < 128) → Uf L := fun L h => Uf.asc h
  unfold gJ
  split
  · exact a _ (by decide)
  · split
    · exact a _ (by decide)
    · split
      · exact a _ (by decide)
      · split
        · exact ((a _ (by decide)).app (xT _)).app (a _ (by decide))
        · split
          · exact ((a _ (by decide)).app (xT _)).app (a _ (by decide))
          · exact ((((a _ (by decide)).app (xT _)).app (a _ (by decide))).app (xT _)).app (a _ (by decide))
theorem FZ {k : Int} : ∀ {l : List Rx} {fst : Bool}, (∀ y, y ∈ l → Uf y.w) → Uf (dI k fst l)
  | [], fst, h => by rw [dI]; exact Uf.nil
  | y :: ys, fst, h => by
    rw [dI]
    refine Uf.app (Uf.app ?_ ?_) (FZ fun z hz => h z (by simp [hz]))
    · rw [mJ]; split
      · exact Uf.asc (by decide)
      · exact Uf.nil
    · rw [brW]; split
      · exact ((Uf.asc (by decide)).app (h y (by simp))).app (Uf.asc (by decide))
      · exact h y (by simp)
theorem MT {α : Type} {g : α → List Nat} : ∀ {l : List α}, (∀ x, x ∈ l → Uf (g x)) → Uf (l.flatMap g)
  | [], _ => Uf.nil
  | x :: l, h => by rw [List.flatMap_cons]; exact (h x (by simp)).app (MT fun y hy => h y (by simp [hy]))
theorem at_bstr {l r : List Nat} (hl : ∀ b, b ∈ l → b < 256) (hr : ∀ b, b ∈ r → b < 256) : At (bstr (l ++ r)) 0 l := by
  have h2 : ∀ b, b ∈ l ++ r → b < 256 := fun b hb => (List.mem_append.1 hb).elim (hl b) (hr b)
  refine At.of fun k hk => ?_
  rw [Nat.zero_add]
  refine ⟨by rw [bsz, List.length_append]; omega, ?_⟩
  rw [BQ (by rw [List.length_append]; omega) h2, List.getElem_append_left hk]
theorem FY {k : Int} {b : Int} : ∀ {l : List Rx} {st st' : St}, dJ l k b st = some st' → ∀ y, y ∈ l → ∃ b' s1 s2, y.fine b' s1 = some s2
  | [], st, st', h, y, hy => by cases hy
  | x :: l, st, st', h, y, hy => by
    obtain ⟨s1, h1, h2⟩ := oI h
    rcases List.mem_cons.1 hy with rfl | h9
    · exact ⟨_, _, _, h1⟩
    · exact FY h2 y h9
theorem w_uf {x : Rx} (hg : Good x) : ∀ {b : Int} {st st' : St}, x.fine b st = some st' → Uf x.w := by
  induction hg with
  | @mk x hn hc hk ih =>
    intro b st st' hfi
    have hf := (bV _).1 hn
    obtain ⟨-, -, hgo, hfk⟩ := oM hfi
    have hkids := FY hfk
    rw [Rx.w_eq]
    refine Uf.app (Uf.app ?_ (FZ fun y hy => ?_)) ?_
    · unfold pN
      split
      · exact litW_uf (hf.lit1 (by assumption)) (hf.lit2 (by assumption))
      · split
        · rename_i h3
          have hr := hn.cls h3
          unfold pJ
          split
          · exact Uf.asc (by decide)
          · refine ((Uf.asc (by decide)).app (MT fun g hg => ?_)).app (Uf.asc (by decide))
            obtain ⟨j, hj, rfl⟩ := List.mem_iff_getElem.1 hg
            have := hr.1 j hj
            rw [kY]
            refine (NF this.1).app ?_
            split
            · exact (Uf.asc (L := [45]) (by decide)).app (NF (by omega))
            · exact Uf.nil
        · split
          · rename_i h7
            have hno := (hgo h7).2.2.1
            refine (Uf.asc (L := [40]) (by decide)).app ?_
            split
            · exact Uf.nil
            · refine ((Uf.asc (L := [63, 80, 60]) (by decide)).app (Uf.asc fun c hc => ?_)).app (Uf.asc (by decide))
              obtain ⟨j, hj, rfl⟩ := List.mem_iff_getElem.1 hc
              have hj' : j < x.name.size := by rw [sI] at hj; exact hj
              have h2 : (nmL x.name)[j] = sb x.name j := by
                rw [pF _ _ hj']
                simp [nmL]
                rfl
              rw [h2]
              have := hno j hj'
              unfold fT at this
              omega
          · repeat' split
            all_goals first | exact Uf.nil | exact Uf.asc (by decide)
    · obtain ⟨b', s1, s2, h9⟩ := hkids y hy
      exact ih y hy h9
    · unfold tX
      split
      · refine (timW_uf _ _).app ?_
        split
        · exact Uf.asc (by decide)
        · exact Uf.nil
      · split
        · exact Uf.asc (by decide)
        · exact Uf.nil
theorem JI {s : ByteArray} (h : At s 0 [40, 63, 109, 41]) : fK s 0 flz = ⟨4, emp, FL true, false, true, 0⟩ := by
  obtain ⟨h0, h1, h2, h3, -⟩ := h
  simp only [Nat.zero_add, Nat.reduceAdd] at h0 h1 h2 h3
  unfold fK
  simp only [Nat.zero_add]
  rw [if_neg (fun h => h ⟨h0, h1⟩), if_neg (fun h => isB.ne h2 (by decide) h.1), if_neg (isB.ne h2 (by decide)), if_neg (isB.ne h2 (by decide))]
  obtain ⟨f, hf⟩ : ∃ f, s.size = f + 1 + 1 := ⟨s.size - 2, by have := h3.1; omega⟩
  generalize hz : s.size = z at hf
  subst hf
  rw [iL, if_neg (by have := h2.1; omega), if_neg (by rw [h2.2]; decide), if_pos h2.2, iL, if_neg (by have := h3.1; omega), if_neg (by rw [h3.2]; decide), if_neg (by rw [h3.2]; decide), if_neg (by rw [h3.2]; decide), if_neg (by rw [h3.2]; decide), if_neg (by rw [h3.2]; decide), if_pos (.inr h3.2)]
  rw [h3.2]
  rfl
section
variable {s : ByteArray} {bb : Bool}
theorem exp_any {x : Rx} (hg : Good x) (hl : x.ln = true → bb = true) {o : Nat} {st st' : St} {i f : Nat} (hfi : x.fine o st = some st') (h : At s i x.w) (he : Endp s (i + x.w.length)) (hi : i ≤ s.size) (hf : s.size < i + f) :
    ∃ y st2, hY s (nI s o) f [] false ⟨i, FL bb, o, st.2⟩ = .ok (y, st2) ∧ lN s (nI s o) (s.size + 1) [y] st2 = .ok (x, ⟨i + x.w.length, FL bb, o, st'.2⟩) := by
  have hn := hg.node
  by_cases e5 : x.kind = 5
  · obtain ⟨-, -, -, hfk⟩ := oM hfi
    rw [e5, if_neg (by decide), if_neg (by decide)] at hfk
    have h2 := hn.two (.inr e5)
    have hxr := IQ hn (.inr e5)
    have hw : x.w = dI 5 true x.kids := by rw [Rx.w_eq, e5, show pN 5 x.r x.ranges x.name = [] from rfl, List.nil_append, show tX 5 x.min x.max x.lazy = [] from rfl, List.append_nil]
    have hkid : ∀ y, y ∈ x.kids → RdW s bb y := fun y hy => rdw (hg.kid y hy) (fun h => hl (SV hy h))
    rw [hw] at h he ⊢
    cases hks : x.kids with
    | nil => rw [hks] at h2; simp at h2
    | cons y ys =>
      rw [hks] at h he hfk
      obtain ⟨st1, f1, f2⟩ := oI hfk
      have hw2 : dI 5 true (y :: ys) = brW (Brk y.kind 5) y.w ++ dI 5 false ys := by rw [dI, show mJ 5 true = [] from rfl, List.nil_append]
      rw [hw2] at h he ⊢
      obtain ⟨h3, h4⟩ := At.app.1 h
      rw [List.length_append, ← Nat.add_assoc] at he
      have hre : Rend s (i + (brW (Brk y.kind 5) y.w).length) := by
        cases ys with
        | nil => rw [dI] at he; exact he.r
        | cons z zs => rw [dI, show mJ 5 false = [124] from rfl, List.append_assoc] at h4; exact .inr (.inl h4.1)
      have hle := DF h3 hi
      refine ⟨_, _, HL (st := (st.1 + 1, st.2)) hf (hkid y (by rw [hks]; simp)) f1 h3 hi hre, ?_⟩
      rw [KJ ys st1 st' _ (s.size + 1) [y] (fun z hz => hkid z (by rw [hks]; simp [hz])) f2 h4 hle he (by omega)]
      rw [List.length_append, Nat.add_assoc]
      have hrp : oC 5 ([y] ++ ys) = x := by
        rw [hxr, e5, hks]
        rw [hks] at h2
        match ys, h2 with
        | b :: l, _ => rfl
      rw [hrp]
  · refine ⟨_, _, (rdw hg hl).row o st st' i f hfi h e5 he.r hf, ?_⟩
    rw [pZ (st := ⟨_, FL bb, o, st'.2⟩) he.nb]
    rfl
end
theorem yE {x : Rx} (hok : x.Ok) (hz : (iD x).length ≤ 4096) : iG (bstr (iD x)) = .ok x := by
  obtain ⟨st', hfi⟩ := hok
  have hg : Good x := Rx.Ok.good ⟨st', hfi⟩
  have hsz : (bstr (iD x)).size = (iD x).length := bsz _
  have huf : Uf (iD x) := by
    rw [iD]
    refine Uf.app ?_ (w_uf hg hfi)
    split
    · exact Uf.asc (by decide)
    · exact Uf.nil
  obtain ⟨l, hv, hl⟩ := huf
  have hU : ∃ N, Utf (bstr (iD x)) N := ⟨_, by rw [hl]; exact (utf_txt hv).1⟩
  have hlo : ∀ b, b ∈ iD x → b < 256 := by rw [hl]; exact TM l
  have hat0 : At (bstr (iD x)) 0 (iD x) := by
    have := at_bstr (l := iD x) (r := []) hlo (fun b hb => by cases hb)
    rw [List.append_nil] at this
    exact this
  have hex : nI (bstr (iD x)) 0 = kL (bstr (iD x)) 249 := by rw [nI, if_pos (by decide)]
  by_cases hln : x.ln = true
  · have e : iD x = [40, 63, 109, 41] ++ x.w := by rw [iD, if_pos hln]
    have hat := hat0
    rw [show At (bstr (iD x)) 0 (iD x) = At (bstr (iD x)) 0 ([40, 63, 109, 41] ++ x.w) from by rw [← e]] at hat
    obtain ⟨h1, h2⟩ := At.app.1 hat
    have h2' : At (bstr (iD x)) 4 x.w := h2
    have hlen : (iD x).length = 4 + x.w.length := by rw [e, List.length_append]; rfl
    obtain ⟨y, st2, p1, p2⟩ := exp_any (s := bstr (iD x)) (bb := true) hg (fun _ => rfl) (o := 0) (i := 4) (f := (bstr (iD x)).size) hfi h2' (.inl (by omega)) (by omega) (by omega)
    have hp : eL (bstr (iD x)) (kL (bstr (iD x)) 249) st0 = .ok ([], ⟨4, FL true, 0, []⟩) := by
      rw [xW (st := st0) h1.1, KG (JI h1) rfl rfl]; rfl
    have h3 : kL (bstr (iD x)) 250 st0 = .ok (x, ⟨4 + x.w.length, FL true, 0, st'.2⟩) := by
      show kP _ (kL (bstr (iD x)) 249) st0 = _
      rw [vS (show oV (bstr (iD x)) (kL (bstr (iD x)) 249) st0 = .ok (y, st2) by
        show hY _ _ ((bstr (iD x)).size + 1) [] false st0 = _
        rw [sS (c := 40) (st := st0) h1.1 (by decide) hp, ← hex]
        exact p1), ← hex]
      exact p2
    exact LE (by omega) hU h3 (by show ¬ 4 + x.w.length < _; omega)
  · have e : iD x = x.w := by rw [iD, if_neg hln, List.nil_append]
    have h2' : At (bstr (iD x)) 0 x.w := by rw [show At (bstr (iD x)) 0 x.w = At (bstr (iD x)) 0 (iD x) from by rw [← e]]; exact hat0
    have hlen : (iD x).length = x.w.length := by rw [e]
    have h3 := (rdw (s := bstr (iD x)) (bb := false) hg (fun h => (hln h).elim)).exp 0 _ st' 0 hfi h2' (.inl (by omega)) (by omega)
    exact LE (by omega) hU h3 (by show ¬ 0 + x.w.length < _; omega)
def NZ {α : Type} (r : Except Int α) : Prop := ∀ e, r = .error e → e ≠ 0
theorem lO {α : Type} (a : α) : NZ (.ok a : Except Int α) := fun e h => by cases h
theorem gY {α : Type} {e : Int} (h : e ≠ 0) : NZ (.error e : Except Int α) := fun e' h' => by cases h'; exact h
theorem NZ.ne {α : Type} {r : Except Int α} {e : Int} (h : NZ r) (k : r = .error e) : e ≠ 0 := h e k
theorem LQ (s : ByteArray) (i : Nat) : NZ (hD s i) := by
  unfold hD
  repeat' split
  all_goals first | exact lO _ | exact gY (by decide)
theorem LP (s : ByteArray) : ∀ f n i, NZ (kO s f n i)
  | 0, n, i => gY (by decide)
  | f + 1, n, i => by
    unfold kO
    repeat' split
    all_goals first | exact lO _ | exact LP s f _ _ | exact gY (by decide) | exact gY ((LQ _ _).ne (by assumption))
theorem nz_hex (s : ByteArray) (i : Nat) : NZ (oE s i) := by
  unfold oE
  repeat' split
  all_goals first | exact lO _ | exact LP _ _ _ _ | exact gY (by decide) | exact gY ((LQ _ _).ne (by assumption))
theorem SG (s : ByteArray) (i : Nat) : NZ (lU s i) := by
  unfold lU
  repeat' split
  all_goals first | exact lO _ | exact nz_hex _ _ | exact gY (by decide)
theorem nz_one (s : ByteArray) (i : Nat) : NZ (kS s i) := by
  unfold kS
  repeat' split
  all_goals first | exact lO _ | exact gY (by decide) | exact gY ((SG _ _).ne (by assumption))
theorem SA (s : ByteArray) (i : Nat) : NZ (hZ s i) := by
  unfold hZ
  repeat' split
  all_goals first | exact lO _ | exact gY (by decide) | exact gY ((nz_one _ _).ne (by assumption))
theorem SE (s : ByteArray) (i : Nat) : NZ (lC s i) := by
  unfold lC
  repeat' split
  all_goals first | exact lO _ | exact SA _ _
theorem nz_item (s : ByteArray) (i : Nat) : NZ (jP s i) := by
  unfold jP
  repeat' split
  all_goals first | exact lO _ | exact SE _ _ | exact gY (by decide)
theorem FR (s : ByteArray) : ∀ f b S i, NZ (gG s f b S i)
  | 0, b, S, i => gY (by decide)
  | f + 1, b, S, i => by
    unfold gG
    repeat' split
    all_goals first | exact lO _ | exact FR s f _ _ _ | exact gY (by decide) | exact gY ((nz_item _ _).ne (by assumption))
theorem SH (s : ByteArray) (fl : Fl) (i : Nat) : NZ (jY s fl i) := by
  unfold jY
  split
  · exact gY ((FR _ _ _ _ _).ne (by assumption))
  · exact lO _
theorem nz_brk {s : ByteArray} {ex : PS → PX Rx} (h : ∀ st, NZ (ex st)) (st : PS) : NZ (pP s ex st) := by
  unfold pP
  dsimp only
  repeat' split
  all_goals first | exact lO _ | exact gY (by decide) | exact gY (by assumption) | exact gY ((h _).ne (by assumption))
theorem SB (s : ByteArray) (st : PS) : NZ (mO s st) := by
  unfold mO
  split <;> exact lO _
theorem OM (s : ByteArray) (st : PS) : NZ (gT s st) := by
  unfold gT
  repeat' split
  all_goals first | exact lO _ | exact SB _ _ | exact gY (by decide) | exact gY ((SG _ _).ne (by assumption))
theorem SC {s : ByteArray} {ex : PS → PX Rx} (h : ∀ st, NZ (ex st)) (st : PS) : NZ (eL s ex st) := by
  unfold eL
  repeat' split
  all_goals first | exact lO _ | exact nz_brk h _ | exact OM _ _ | exact gY ((SH _ _ _).ne (by assumption)) | (unfold kJ; exact lO _)
theorem JL {s : ByteArray} {ex : PS → PX Rx} (h : ∀ st, NZ (ex st)) : ∀ f l ah st, NZ (hY s ex f l ah st)
  | 0, l, ah, st => lO _
  | f + 1, l, ah, st => by
    unfold hY
    dsimp only
    repeat' split
    all_goals first | exact lO _ | exact JL h f _ _ _ | exact gY (by decide) | exact gY ((SC h _).ne (by assumption))
theorem LS {s : ByteArray} {ex : PS → PX Rx} (h : ∀ st, NZ (ex st)) : ∀ f l st, NZ (lN s ex f l st)
  | 0, l, st => lO _
  | f + 1, l, st => by
    unfold lN
    repeat' split
    all_goals first | exact lO _ | exact LS h f _ _ | exact gY ((JL h _ _ _ _).ne (by assumption))
theorem LR {s : ByteArray} {ex : PS → PX Rx} (h : ∀ st, NZ (ex st)) (st : PS) : NZ (kP s ex st) := by
  unfold kP
  split
  · exact gY ((JL h _ _ _ _).ne (by assumption))
  · exact LS h _ _ _
theorem SF (s : ByteArray) : ∀ n st, NZ (kL s n st)
  | 0, st => LR (fun _ => gY (by decide)) st
  | n + 1, st => LR (SF s n) st
theorem SD (s : ByteArray) : NZ (iG s) := by
  unfold iG
  repeat' split
  all_goals first | exact lO _ | exact gY (by decide) | exact gY ((SF _ _ _).ne (by assumption))
def cnt (p : Int × Int → Bool) : List (Int × Int) → Nat
  | [] => 0
  | g :: l => (if p g = true then 1 else 0) + cnt p l
theorem UJ (p : Int × Int → Bool) : ∀ l, cnt p l ≤ l.length
  | [] => Nat.le_refl _
  | g :: l => by
    have := UJ p l
    rw [cnt, List.length_cons]
    split <;> omega
theorem UI {p q : Int × Int → Bool} (h : ∀ g, q g = true → p g = true) : ∀ l, cnt q l ≤ cnt p l
  | [] => Nat.le_refl _
  | g :: l => by
    have := UI h l
    have hg := h g
    rw [cnt, cnt]
    split <;> split <;> first | omega | (rename_i a b; exact (b (hg a)).elim)
theorem NH {p q : Int × Int → Bool} (h : ∀ g, q g = true → p g = true) {x : Int × Int} (hp : p x = true) (hq : ¬ q x = true) : ∀ {l}, x ∈ l → cnt q l + 1 ≤ cnt p l
  | g :: l, hx => by
    rw [cnt, cnt]
    rcases List.mem_cons.1 hx with rfl | hx
    · have := UI h l
      rw [if_neg hq, if_pos hp]
      omega
    · have := NH h hp hq hx
      have hg := h g
      split <;> split <;> first | omega | (rename_i a b; exact (b (hg a)).elim)
theorem NK {S : Int → Prop} {l : List (Int × Int)} (hl : ∀ c, InR c l ↔ S c) : ∀ {m : List (Int × Int)} {b : Int}, jM b m → (∀ c, b - 1 ≤ c → (S c ↔ InR c m)) → m.length ≤ cnt (fun g => decide (b ≤ g.1)) l
  | [], b, _, _ => Nat.zero_le _
  | g :: m, b, hc, hm => by
    rw [jM] at hc
    obtain ⟨c1, c2, c3, c4⟩ := hc
    have hS : S g.1 := (hm g.1 (by omega)).2 (fY.2 (.inl ⟨Int.le_refl _, c2⟩))
    obtain ⟨x, hx, x1, x2⟩ := (hl g.1).2 hS
    have hx1 : ¬ x.1 < g.1 := fun h9 => by
      have h8 : S (g.1 - 1) := (hl _).1 ⟨x, hx, by omega, by omega⟩
      rcases fY.1 ((hm _ (by omega)).1 h8) with h7 | h7
      · omega
      · have := mD c4 h7; omega
    have ih := NK hl (m := m) c4 fun c h9 => by
      rw [hm c (by omega), fY]
      exact ⟨fun h8 => h8.resolve_left (by omega), .inr⟩
    have h1 := NH (p := fun g' => decide (b ≤ g'.1)) (q := fun g' => decide (g.2 + 2 ≤ g'.1)) (fun g' h9 => by simp at h9 ⊢; omega) (x := x) (by simp; omega) (by simp; omega) hx
    rw [List.length_cons]
    omega
def Iw (k : Nat) (S : Int → Prop) : Prop := Bdd S ∧ ∃ l : List (Int × Int), l.length ≤ k ∧ ∀ c, InR c l ↔ S c
section
variable {k m : Nat} {S T : Int → Prop}
theorem Iw.can (h : Iw k S) : (jT S).length ≤ k := by
  obtain ⟨hb, l, h1, h2⟩ := h
  obtain ⟨c1, c2⟩ := pW hb
  refine Nat.le_trans (NK h2 c1 fun c hc => (c2 c).symm) (Nat.le_trans (UJ _ l) h1)
theorem Iw.mono (h : Iw k S) (hk : k ≤ m) : Iw m S := by
  obtain ⟨hb, l, h1, h2⟩ := h
  exact ⟨hb, l, by omega, h2⟩
theorem mM {l : List (Int × Int)} (h : l.all (fun g => decide (0 ≤ g.1) && decide (g.2 ≤ 1114111)) = true) (hk : l.length ≤ k) : Iw k (rs l) := ⟨mK h, l, hk, fun c => Iff.rfl⟩
theorem Iw.un (h : Iw k S) (h2 : Iw m T) : Iw (k + m) (unS S T) := by
  obtain ⟨hb, l, h1, h2'⟩ := h
  obtain ⟨gb, l2, g1, g2⟩ := h2
  exact ⟨PW hb gb, l ++ l2, by rw [List.length_append]; omega, fun c => by rw [mX, h2', g2]; exact Iff.rfl⟩
theorem Iw.fold (h : Iw k S) : Iw (3 * k) (nK S) := by
  obtain ⟨hb, l, h1, h2⟩ := h
  refine ⟨yZ hb, l ++ pV l, by have := sO l; rw [List.length_append]; omega, fun c => ?_⟩
  rw [foldL_in, show (fun c => InR c l) = S from funext fun c => propext (h2 c)]
theorem GI : ∀ (l : List (Int × Int)) (b : Int), (pI b l).length ≤ l.length + 1
  | [], b => by rw [pI]; split <;> simp
  | g :: l, b => by
    have := GI l (g.2 + 1)
    rw [pI, List.length_append, List.length_cons]
    split <;> simp <;> omega
theorem Iw.neg (h : Iw k S) : Iw (k + 1) (sU S) := by
  have hl := h.can
  obtain ⟨c1, c2⟩ := pW h.1
  obtain ⟨-, g2⟩ := xO (l := jT S) (b := 0) (d := 0) (Int.le_refl _) (Int.le_refl _) c1
  refine ⟨xL S, pI 0 (jT S), by have := GI (jT S) 0; omega, fun c => ?_⟩
  rw [g2, c2]; exact Iff.rfl
theorem iw_rg {a b : Int} (h0 : 0 ≤ a) (h1 : b ≤ 1114111) : Iw 1 (rgS a b) := ⟨IR h0 h1, [(a, b)], Nat.le_refl _, fun c => by rw [jN]; exact Iff.rfl⟩
theorem iw_eq {c : Int} (h0 : 0 ≤ c) (h1 : c ≤ 1114111) : Iw 1 (fun x => x = c) := ⟨CG h0 h1, [(c, c)], Nat.le_refl _, fun x => by rw [jN]; show c ≤ x ∧ x ≤ c ↔ x = c; omega⟩
theorem MB {c : Nat} (h : rM c = some S) : Iw 6 S := by
  unfold rM at h
  repeat' split at h
  all_goals first | (cases h; done) | (cases h; exact (Iw.neg (mM (k := 5) (by decide) (by decide)))) | (cases h; exact mM (by decide) (by decide))
theorem mB {p : Prop} [Decidable p] {A : Int → Prop} {o : Option (Int → Prop)} (h : (if p then some A else o) = some S) (hA : Iw k A) (ho : o = some S → Iw k S) : Iw k S := by
  by_cases hp : p
  · rw [if_pos hp] at h; cases h; exact hA
  · rw [if_neg hp] at h; exact ho h
theorem LX {n : ByteArray} (h : jR n = some S) : Iw 5 S :=
  (fun h => mB h (mM (by decide) (by decide)) (fun h => mB h (mM (by decide) (by decide)) (fun h => mB h (mM (by decide) (by decide)) (fun h => mB h (mM (by decide) (by decide)) (fun h => mB h (mM (by decide) (by decide)) (fun h => mB h (mM (by decide) (by decide)) (fun h => mB h (mM (by decide) (by decide)) (fun h => mB h (mM (by decide) (by decide)) (fun h => mB h (mM (by decide) (by decide)) (fun h => mB h (mM (by decide) (by decide)) (fun h => mB h (mM (by decide) (by decide)) (fun h => mB h (mM (by decide) (by decide)) (fun h => mB h (mM (by decide) (by decide)) (fun h => mB h (mM (by decide) (by decide)) (fun h => by cases h))))))))))))))) h
theorem FD {s : ByteArray} {i j : Nat} (h : hZ s i = .ok (S, j)) (hb : Bd s i) (hi : i < s.size) : Iw 6 S := by
  unfold hZ at h
  cases h1 : kS s i with
  | error e => rw [h1] at h; cases h
  | ok p =>
    obtain ⟨lo, m⟩ := p
    obtain ⟨b1, b2, b3, b4⟩ := kK h1 hb hi
    rw [h1] at h
    simp only at h
    split at h
    · rename_i hd
      cases h3 : kS s (m + 1) with
      | error e => rw [h3] at h; cases h
      | ok q =>
        obtain ⟨hi9, m2⟩ := q
        rw [h3] at h
        simp only at h
        split at h
        · cases h
        · have b5 := (b1.asc hd.1.1 (by rw [hd.1.2]; decide)).1
          have b6 := kK h3 b5 hd.2.1
          cases h
          exact (iw_rg b3 b6.2.2.2).mono (by decide)
    · cases h; exact (iw_rg b3 b4).mono (by decide)
theorem GC {s : ByteArray} {i j : Nat} (h : lC s i = .ok (S, j)) (hb : Bd s i) (hi : i < s.size) : Iw 6 S := by
  unfold lC at h
  split at h
  · split at h
    · cases h; exact MB (by assumption)
    · exact FD h hb hi
  · exact FD h hb hi
theorem item_iw {s : ByteArray} {i j : Nat} (h : jP s i = .ok (S, j)) (hb : Bd s i) (hi : i < s.size) : Iw 6 S := by
  unfold jP at h
  split at h
  · split at h
    · exact GC h hb hi
    · split at h
      · split at h
        · cases h
        · cases h; exact (LX (by assumption)).neg
      · split at h
        · cases h
        · cases h; exact (LX (by assumption)).mono (by decide)
  · exact GC h hb hi
theorem GB {s : ByteArray} : ∀ {f i j k : Nat} {fst : Bool} {S T : Int → Prop}, gG s f fst S i = .ok (T, j) → Bd s i → Iw k S → Iw (k + 6 * (j - i)) T
  | 0, i, j, k, fst, S, T, h, hb, hS => by rw [gG] at h; cases h
  | f + 1, i, j, k, fst, S, T, h, hb, hS => by
    rw [gG] at h
    split at h
    · cases h
    · split at h
      · cases h; exact hS.mono (by omega)
      · split at h
        · cases h
        · rename_i U j1 h1
          obtain ⟨b1, b2⟩ := uC h1 hb (by omega)
          have := (uB h b1).2
          exact (GB h b1 (hS.un (item_iw h1 hb (by omega)))).mono (by omega)
theorem UF : emp.size = 0 := rfl
theorem ms_k (c : Int) : (rxK c).ms = 40 := rfl
theorem ms_cls (l : List (Int × Int)) : (iT l).ms = 40 + 26 * l.length := by rw [Rx.ms_eq]; show 40 + emp.size + 26 * l.length + kms [] = _; rw [UF, kms]; omega
theorem ms_lit (c : Int) : (lB c).ms = 40 := rfl
theorem ms_rep (lo hi : Int) (z : Bool) (x : Rx) : (jV lo hi z x).ms = 40 + x.ms := by rw [Rx.ms_eq]; show 40 + emp.size + 26 * 0 + kms [x] = _; rw [UF, kms, kms]; omega
theorem ms_grp (c : Int) (nm : ByteArray) (x : Rx) : (rC c nm x).ms = 40 + nm.size + x.ms := by rw [Rx.ms_eq]; show 40 + nm.size + 26 * 0 + kms [x] = _; rw [kms, kms]; omega
theorem qN (h : Iw k S) : (kF S).ms ≤ 40 + 26 * k := by
  rcases wK S with ⟨a, -, e⟩ | e
  · rw [e, ms_lit]; omega
  · rw [e, ms_cls]; have := h.can; omega
theorem CD {f : Fl} {c : Int} (h0 : 0 ≤ c) (h1 : c ≤ 1114111) : (lD f c).ms ≤ 118 := by
  rw [litS]
  split
  · exact qN (k := 3) (iw_eq h0 h1).fold
  · exact Nat.le_trans (qN (k := 1) (iw_eq h0 h1)) (by decide)
theorem sK : ∀ (a b : List Rx), kms (a ++ b) = kms a + kms b
  | [], b => by rw [List.nil_append, kms, Nat.zero_add]
  | x :: a, b => by rw [List.cons_append, kms, kms, sK a b]; omega
theorem lI (x : Rx) : kms [x] = x.ms := by rw [kms, kms, Nat.add_zero]
theorem CC (c : Int) : ∀ l, (oC c l).ms ≤ 40 + kms l
  | [] => by rw [kms]; exact Nat.le_refl 40
  | [x] => by rw [lI]; show x.ms ≤ _; omega
  | x :: y :: l => by
    show (rH c (x :: y :: l)).ms ≤ _
    rw [Rx.ms_eq]; show 40 + emp.size + 26 * 0 + kms (x :: y :: l) ≤ _; rw [UF]; omega
theorem MH (lo hi : Int) (z : Bool) (l : List Rx) : kms (l.dropLast ++ [jV lo hi z (l.getLastD (rxK 1))]) ≤ kms l + 80 := by
  rw [sK, lI, ms_rep]
  rcases List.eq_nil_or_concat l with rfl | ⟨m, y, rfl⟩
  · show kms [] + (40 + (rxK 1).ms) ≤ _
    rw [ms_k]; omega
  · simp only [List.concat_eq_append, List.dropLast_concat, List.getLastD_concat]
    rw [sK, lI]; omega
end
section
variable {s : ByteArray}
theorem UK {fl : Fl} {i j : Nat} {x : Rx} (h : jY s fl i = .ok (x, j)) (hb : Bd s i) : x.ms ≤ 1000 * (j - i) := by
  have hij := (uD h hb).2
  unfold jY at h
  split at h
  · cases h
  · rename_i C j2 hi
    cases h
    have key : ∀ i2, i ≤ i2 → Bd s i2 → gG s (s.size + 1) true (fun _ => False) i2 = .ok (C, j) → Iw (6 * (j - i)) C := fun i2 h1 h2 h3 =>
      (GB h3 h2 (k := 0) ⟨fun c hc => hc.elim, [], Nat.le_refl _, fun c => ⟨fun h9 => (jS c h9).elim, fun h9 => h9.elim⟩⟩).mono (by omega)
    have hC : Iw (6 * (j - i)) C := by
      split at hi
      · rename_i h9; exact key _ (Nat.le_succ i) ((hb.asc h9.1 (by rw [h9.2]; decide)).1) hi
      · exact key i (Nat.le_refl _) hb hi
    have hF : Iw (18 * (j - i)) (if fl.fold = true then nK C else C) := by
      split
      · exact hC.fold.mono (by omega)
      · exact hC.mono (by omega)
    by_cases h94 : isB s i 94
    · rw [if_pos h94]
      exact Nat.le_trans (qN hF.neg) (by omega)
    · rw [if_neg h94]
      exact Nat.le_trans (qN hF) (by omega)
theorem IW {fl : Fl} {e : Nat} (he : e ≤ s.size) : ∀ {f i : Nat} {l : List Rx}, Bd s i → kms (kQ s fl e f l i).1 + 1000 * i ≤ kms l + 1000 * (kQ s fl e f l i).2
  | 0, i, l, hb => Nat.le_refl _
  | f + 1, i, l, hb => by
    rw [kQ]
    split
    · rename_i hi
      obtain ⟨n1, n2, n3, n4, n5⟩ := hb.next (by omega)
      have h1 := IW (fl := fl) he (f := f) (l := l ++ [lD fl (cD s i).1]) n3
      have h2 := CD (f := fl) n4 n5
      rw [sK, lI] at h1
      omega
    · exact Nat.le_refl _
theorem QU {st st2 : PS} {g : List Rx} (h : mO s st = .ok (g, st2)) (hb : Bd s (st.pos + 2)) : kms g + 1000 * st.pos ≤ 1000 * st2.pos := by
  unfold mO at h
  split at h
  · rename_i e he
    cases h
    obtain ⟨f1, f2, f3⟩ := (pA s 92 69 s.size (st.pos + 2) (by have := hb.le; omega)).1 e he
    have h1 := IW (fl := st.now) (e := e) (by have := f2.1; omega) (f := s.size) (l := []) hb
    rw [kms] at h1
    show _ ≤ 1000 * ((kQ s st.now e s.size [] (st.pos + 2)).2 + 2)
    omega
  · cases h
    have h1 := IW (fl := st.now) (e := s.size) (Nat.le_refl _) (f := s.size) (l := []) hb
    rw [kms] at h1
    show _ ≤ 1000 * (kQ s st.now s.size s.size [] (st.pos + 2)).2
    omega
theorem PA {st st2 : PS} {g : List Rx} (h : gT s st = .ok (g, st2)) (h92 : sb s st.pos = 92) (hb : Bd s st.pos) (hp : st.pos < s.size) : kms g + 1000 * st.pos ≤ 1000 * st2.pos := by
  have b1 := (hb.asc hp (by rw [h92]; decide)).1
  have leaf : ∀ k : Int, kms [rxK k] + 1000 * st.pos ≤ 1000 * (st.pos + 2) := fun k => by rw [lI, ms_k]; omega
  unfold gT at h
  split at h
  · cases h
  · rename_i hsz
    split at h
    · cases h; exact leaf _
    · split at h
      · cases h; exact leaf _
      · split at h
        · cases h; exact leaf _
        · split at h
          · cases h; exact leaf _
          · split at h
            · exact QU h ((b1.asc (by omega) (by omega)).1)
            · split at h
              · rename_i S hS
                cases h
                have := qN (MB hS)
                rw [lI]
                show _ ≤ 1000 * (st.pos + 2)
                omega
              · split at h
                · cases h
                · rename_i v j he
                  cases h
                  obtain ⟨e1, e2, e3⟩ := BX he hb h92
                  have := CD (f := st.now) (c := (v : Int)) (by omega) (by omega)
                  rw [lI]
                  show _ ≤ 1000 * j
                  omega
theorem RE {st st2 : PS} {g : List Rx} (h : kJ s st = .ok (g, st2)) (hb : Bd s st.pos) (hp : st.pos < s.size) : kms g + 1000 * st.pos ≤ 1000 * st2.pos := by
  obtain ⟨n1, n2, n3, n4, n5⟩ := hb.next hp
  unfold kJ at h
  cases h
  rw [lI]
  have key : ∀ x : Rx, x.ms ≤ 118 → x.ms + 1000 * st.pos ≤ 1000 * (st.pos + (cD s st.pos).2) := fun x hx => by omega
  refine key _ ?_
  split
  · split
    · exact Nat.le_trans (qN (k := 2) (mM (by decide) (by decide))) (by decide)
    · exact Nat.le_trans (qN (k := 2) (mM (by decide) (by decide))) (by decide)
  · split
    · rw [ms_k]; decide
    · split
      · rw [ms_k]; decide
      · exact CD n4 n5
def PM (s : ByteArray) (ex : PS → PX Rx) (n : Nat) : Prop := ∀ st x st', st.opn = n → Bd s st.pos → st.names.length ≤ 100 → ex st = .ok (x, st') → x.ms + 1000 * st.pos ≤ 1000 * st'.pos + 80
theorem RX {i : Nat} {fl : Fl} : (fK s i fl).name.size ≤ (fK s i fl).size := by
  have hn : ∀ h, (lZ s i h fl).name.size ≤ (lZ s i h fl).size := fun h => by
    unfold lZ
    split
    · exact Nat.zero_le _
    · show (s.extract (i + h) (iA s s.size (i + h))).size ≤ iA s s.size (i + h) + 1 - i
      rw [ByteArray.size_extract]
      have : i + h ≤ iA s s.size (i + h) := uA
      omega
  have hs : ∀ {f j : Nat} {b m : Bool} {n : Int} {fl : Fl}, (iL s i f j b n m fl).name.size = 0 := by
    intro f
    induction f with
    | zero => intro j b m n fl; rfl
    | succ f ih =>
      intro j b m n fl
      rw [iL]
      repeat' split
      all_goals first | exact ih | rfl
  unfold fK
  split
  · exact Nat.zero_le _
  · split
    · exact hn 4
    · split
      · exact hn 3
      · split
        · exact Nat.zero_le _
        · rw [hs]; exact Nat.zero_le _
theorem brk_sz {ex : PS → PX Rx} {st st2 : PS} {g : List Rx} (h : pP s ex st = .ok (g, st2)) (h40 : isB s st.pos 40) (hb : Bd s st.pos) (hn : st.names.length ≤ 100) (hex : PM s ex (st.opn + 1)) : kms g + 1000 * st.pos ≤ 1000 * st2.pos := by
  have hnz := RX (s := s) (i := st.pos) (fl := st.now)
  by_cases hset : (fK s st.pos st.now).err = 0 ∧ (fK s st.pos st.now).sett = true
  · rw [KG rfl hset.1 hset.2] at h
    cases h
    show kms [] + 1000 * st.pos ≤ 1000 * (st.pos + _)
    rw [kms]; omega
  · by_cases h250 : st.opn = 250
    · rw [DD rfl hset h250] at h; cases h
    by_cases herr : (fK s st.pos st.now).err ≠ 0
    · rw [KH rfl hset h250 herr] at h; cases h
    by_cases hful : (fK s st.pos st.now).capt = true ∧ IG (fK s st.pos st.now).name st.names
    · rw [DC rfl hset h250 herr hful.1 hful.2] at h; cases h
    rw [nL rfl hset h250 herr hful] at h
    obtain ⟨b1, b2, -⟩ := xI hb h40 (Classical.not_not.1 herr)
    generalize fK s st.pos st.now = O at *
    split at h
    · cases h
    · rename_i x st3 hx
      split at h
      · cases h
        have h1 := hex _ x st3 rfl b2 (by
          show (if O.capt = true then st.names ++ [O.name] else st.names).length ≤ 100
          split
          · rename_i hc
            have : st.names.length ≠ 100 := fun h9 => hful ⟨hc, .inl h9⟩
            rw [List.length_append]; simp; omega
          · exact hn) hx
        have h2 : x.ms + 1000 * (st.pos + O.size) ≤ 1000 * st3.pos + 80 := h1
        rw [lI]
        show _ ≤ 1000 * (st3.pos + 1)
        split
        · rw [ms_grp]; omega
        · omega
      · cases h
theorem RH {ex : PS → PX Rx} {st st2 : PS} {g : List Rx} (h : eL s ex st = .ok (g, st2)) (hb : Bd s st.pos) (hp : st.pos < s.size) (hn : st.names.length ≤ 100) (hex : PM s ex (st.opn + 1)) : kms g + 1000 * st.pos ≤ 1000 * st2.pos := by
  unfold eL at h
  split at h
  · rename_i hc; exact brk_sz h ⟨hp, hc⟩ hb hn hex
  · split at h
    · rename_i hc
      split at h
      · cases h
      · rename_i x j hx
        cases h
        have hb1 := (hb.asc hp (by rw [hc]; decide)).1
        have h1 := UK hx hb1
        have h2 := (uD hx hb1).2
        rw [lI]
        show _ ≤ 1000 * j
        omega
    · split at h
      · rename_i hc; exact PA h hc hb hp
      · exact RE h hb hp
section
variable {ex : PS → PX Rx} {o : Nat} (ho : o ≤ 250) (hex : o < 250 → AG s ex (o + 1)) (hsz : PM s ex (o + 1))
include ho hex hsz
theorem zO : ∀ (f : Nat) (l : List Rx) (ah : Bool) (st st' : PS) (x : Rx) (p0 : Nat), st.opn = o → Bd s st.pos → st.names.length ≤ 100 → kms l + 1000 * p0 ≤ 1000 * st.pos → hY s ex f l ah st = .ok (x, st') → x.ms + 1000 * p0 ≤ 1000 * st'.pos + 40
  | 0, l, ah, st, st', x, p0, h1, h2, h3, h4, h => by rw [hY] at h; cases h; have := CC 4 l; omega
  | f + 1, l, ah, st, st', x, p0, h1, h2, h3, h4, h => by
    by_cases hend : s.size ≤ st.pos ∨ sb s st.pos = 124 ∨ sb s st.pos = 41
    · rw [mE hend] at h; cases h; have := CC 4 l; omega
    have hp : st.pos < s.size := by omega
    generalize hr : kZ (s.extract st.pos s.size) = rr
    obtain ⟨lo, hi, nn⟩ := rr
    obtain ⟨-, -, -, -, r5⟩ := JD h2 hp hr
    by_cases hn : nn = 0
    · subst hn
      cases hpc : eL s ex st with
      | error e => rw [DG hend hr hpc] at h; cases h
      | ok q =>
        obtain ⟨g, st2⟩ := q
        rw [KL hend hr hpc] at h
        obtain ⟨q, -, -, g3, g4, g5, g6⟩ := LG hpc h2 hp (by rw [h1]; exact ho) h3 (by rw [h1]; exact hex)
        have hg := RH hpc h2 hp h3 (by rw [h1]; exact hsz)
        exact zO f _ _ _ _ _ p0 (by rw [g5, h1]) g4 g6 (by rw [sK]; omega) h
    · obtain ⟨r6, r7⟩ := r5 hn
      by_cases hcd : ah = false ∨ 1000 < lo ∨ 1000 < hi ∨ (0 ≤ hi ∧ hi < lo)
      · rw [uP hend hr hn hcd] at h; cases h
      by_cases hb : isB s (st.pos + nn) 63
      · rw [uQ hend hr hn hcd hb] at h
        have := MH lo hi (!st.now.lazy) l
        exact zO f _ _ { st with pos := st.pos + nn + 1 } _ _ p0 h1 ((r7.asc hb.1 (by rw [hb.2]; decide)).1) h3 (by show _ ≤ 1000 * (st.pos + nn + 1); omega) h
      · rw [xZ hend hr hn hcd hb] at h
        have := MH lo hi st.now.lazy l
        exact zO f _ _ { st with pos := st.pos + nn } _ _ p0 h1 r7 h3 (by show _ ≤ 1000 * (st.pos + nn); omega) h
theorem NP : ∀ (f : Nat) (l : List Rx) (st st' : PS) (x : Rx) (p0 : Nat), st.opn = o → Bd s st.pos → st.names.length ≤ 100 → kms l + 1000 * p0 ≤ 1000 * st.pos + 40 → lN s ex f l st = .ok (x, st') → x.ms + 1000 * p0 ≤ 1000 * st'.pos + 80
  | 0, l, st, st', x, p0, h1, h2, h3, h4, h => by rw [lN] at h; cases h; have := CC 5 l; omega
  | f + 1, l, st, st', x, p0, h1, h2, h3, h4, h => by
    by_cases hb : isB s st.pos 124
    · cases hp : hY s ex (s.size + 1) [] false (adv st 1) with
      | error e => rw [HK hb hp] at h; cases h
      | ok q =>
        obtain ⟨y, st2⟩ := q
        rw [xY hb hp] at h
        have hb1 := (h2.asc hb.1 (by rw [hb.2]; decide)).1
        have hy := zO ho hex hsz _ _ _ (adv st 1) _ _ (st.pos + 1) h1 hb1 h3 (by rw [kms]; show 0 + 1000 * (st.pos + 1) ≤ 1000 * (st.pos + 1); omega) hp
        obtain ⟨q2, r1, r2, r3, r4, r5, r6⟩ := DH ho hex (st := adv st 1) hb1 h1 h3 hp
        exact NP f _ _ _ _ p0 r5 r4 r6 (by rw [sK, lI]; omega) h
    · rw [pZ hb] at h; cases h; have := CC 5 l; omega
theorem MX : PM s (kP s ex) o := by
  intro st x st' h1 h2 h3 h
  cases hp : oV s ex st with
  | error e => unfold oV at hp; unfold kP at h; rw [hp] at h; cases h
  | ok q =>
    obtain ⟨y, st2⟩ := q
    rw [vS hp] at h
    have hy := zO ho hex hsz _ _ _ _ _ _ st.pos h1 h2 h3 (by rw [kms]; omega) hp
    obtain ⟨q2, r1, r2, r3, r4, r5, r6⟩ := DH ho hex h2 h1 h3 hp
    exact NP ho hex hsz _ _ _ _ _ st.pos r5 r4 r6 (by rw [lI]; omega) h
end
theorem TT : ∀ n, n ≤ 250 → PM s (kL s n) (250 - n)
  | 0, _ => MX (ex := fun _ => .error 3) (o := 250) (Nat.le_refl _) (fun h => absurd h (Nat.lt_irrefl _)) (fun st x st' _ _ _ h => by cases h)
  | n + 1, h => by
    have h1 := TU s n (by omega)
    have h2 := TT n (by omega)
    have h3 : PM s (kP s (kL s n)) (250 - (n + 1)) := MX (by omega) (fun _ => by rw [show 250 - (n + 1) + 1 = 250 - n by omega]; exact h1) (by rw [show 250 - (n + 1) + 1 = 250 - n by omega]; exact h2)
    exact h3
theorem RN {x : Rx} (h : iG s = .ok x) : x.ms ≤ 4096080 := by
  obtain ⟨-, st, h1, h2, h3, -⟩ := qI h
  have hz : ¬ 4096 < s.size := fun h9 => by rw [LF h9] at h; cases h
  obtain ⟨N, k, hU, -⟩ := id h3
  have := TT 250 (Nat.le_refl _) st0 x st rfl (Bd.zero hU) (Nat.zero_le _) h1
  have h4 : x.ms + 1000 * 0 ≤ 1000 * st.pos + 80 := this
  have := h3.le
  omega
end
end Go.Proofs.YtljadkcojnlioaaGreatDoor
namespace Go.Proofs.YtljadkcojnlioaaGreatDoor
open Go.RowKit Go.W
attribute [local irreducible] Decidable.decide
theorem ID : fA Tryz.prog 10 := ⟨_, Tryz.func10, by kernel_rfl, by kernel_rfl⟩
theorem IB : fA Tryz.prog 18 := ⟨_, Tryz.func18, by kernel_rfl, by kernel_rfl⟩
theorem yL {w : World} {s : ByteArray} (hG : Glb w) : Calls Tryz.prog 11 #[.string s] w (Ret fun v w' => ∃ vs n x e, v = .tuple #[.agg vs.toArray, iv e] ∧ RRx n [] w' vs x ∧ ((iG s = .ok x ∧ e = 0) ∨ (iG s = .error e ∧ e ≠ 0)) ∧ Evo [] w w') := by
  refine (yK s hG).mono ?_
  rintro e w' ⟨v, rfl, hv, h1 | ⟨x2, vs, bs, h2, rfl, h4, h5⟩⟩
  · obtain ⟨e, h1, rfl⟩ := h1
    exact ⟨_, rfl, _, 1, zX, e, rfl, zX_rx [] w', .inr ⟨h1, (SD s).ne h1⟩, hv⟩
  · obtain ⟨n, hn⟩ := h4.rrx (X := []) (fun b _ h => by cases h)
    exact ⟨_, rfl, vs, n, x2, 0, rfl, hn, .inl ⟨h2, rfl⟩, hv⟩
theorem QH {t : Rx} {s : List Nat} {e : Int} (h : ShowIs t s e) (k : ¬ t.Ok) : s = [] ∧ e = 2 := h.elim (fun h => h.2) (fun h => (k h.1).elim)
theorem AJ {t : Rx} {s : List Nat} {e : Int} (h : ShowIs t s e) (k : t.Ok) : (s = [] ∧ e = 1) ∨ ((iD t).length ≤ 4096 ∧ s = iD t ∧ e = 0) := by
  rcases h with h | ⟨-, h | h⟩
  · exact (h.1 k).elim
  · exact .inl h.2
  · exact .inr h
set_option maxHeartbeats 2000000 in
theorem UV {n : Nat} {w : World} {vs : List Value} {t : Rx} (pt : ByteArray) (hG : Gw w) (hx : RRx n [] w vs t) (hms : t.ms ≤ 60000000) :
    Calls Tryz.prog 5 #[.agg vs.toArray, .string pt] w (Ret fun v w' => v = .bool true ∧ Evo [] w w') := by
  have hx0 := hx; obtain ⟨m, ra, rc, ka, kc, hm, rfl, hrg, hk, bl1, bl2, bl3⟩ := hx.get; refine bL (N := 102) Tryz.func5 rfl rfl rfl ?_; refine aE (aB (iY rfl rfl fun b1x w1 hB2 hs3 hw4 => ?_)); have hsz_b1x := hs3; have hE6 := (Evo.refl [] w).then hw4; refine aN (aC (aA (aE (aE (aB (aP (vs := []) ID rfl (VA (hG.evo0 hE6)) rfl ?_)))))); rintro _ w7 ⟨rfl, hw8⟩; have hE9 := hE6.then hw8; have hB10 := hw8.blk0 hB2; refine aF (eJ rfl) ?_; refine aC (aA (cN rfl ?_)); refine aX (aA (aE (aE (aB (aF (bY rfl bR bD hB10 rfl) (aP (vs := [_]) IB rfl (wide_ok (RRx.pers _ _ _ _ _ _ hE9 hx0)) rfl ?_)))))); rintro _ w11 ⟨wb, rfl, hw12⟩; have hE13 := hE9.then hw12; have hB14 := hw12.blk0 hB10; refine aC (aA (fX rfl (fun hc19 => ?_) (fun hc19 => ?_)))
  ·refine aE (aB (aN (aC (aA (aO (aM (br1 ?_))))))); exact ⟨rfl, hE13⟩
  refine aX (aA (aE (aB (aH (aP (vs := [_]) nG rfl (yL (s := pt) (hG.evo0 hE13).glb) rfl ?_))))); rintro _ w15 ⟨vx, n1, z, e1, rfl, hx1, hzp, hw16⟩; have hE17 := hE13.then hw16; have hB18 := hw16.blk0 hB14; have hx1' := hx1; obtain ⟨m1, ra1, rc1, ka1, kc1, hm1, rfl, -⟩ := hx1.get; refine aH (aF (cO rfl rfl) ?_); refine aF (cO rfl rfl) ?_; refine dH rfl eI fun bz w19 hB20 hs21 hw22 => ?_; have hsz_bz := hs21; have hA23 := Apart.new (Lt.blk hB18) hs21; have hG24 := Ge.new hE17 hs21; have hG25 := Ge.new (Evo.refl [] w15) hs21; have hE26 := hE17.then hw22; have hE27 := (Evo.refl [] w15).then hw22; have hB28 := hw22.blk0 hB18; refine bN rfl rfl bD hB20 rfl rfl ⟨rfl, rfl, rfl, rfl, rfl, rfl, rfl, rfl, rfl, trivial⟩ fun w29 hB30 hw31 => ?_; have hE32 := hE26.step hw31 hG24.mem1; have hE33 := hE27.step hw31 hG25.mem1; have hB34 := hw31.blk hB28 hA23.nmem1
  try simp only [cV, Nat.reduceAdd] at hB30
  refine aN (aC (aA (aE (rQ (α := Unit) (fun x => []) [(2, _)] (fun x wr => Evo [] w29 wr ∧ (True)) ⟨rfl, trivial⟩ ?_ ?_))))
  ·refine aE (aB (aH (aF (bC rfl rfl) ?_))); refine aC (aA (bG rfl (fun hc26 => ?_) (fun hc26 => ?_)))
   ·have hzo : iG pt = .ok z := (hzp.resolve_right fun h9 => h9.2 (by omega)).1; refine aE (aB (aF (bY rfl bR bD hB30 rfl) ?_)); refine aP (vs := [_]) sA rfl (EP (hG.evo0 hE32) (RRx.pers _ _ _ _ _ _ hE33 hx1') (Nat.le_trans (RN hzo) (by decide))) rfl ?_; rintro _ w35 ⟨s1, e2, hs1, rfl, hw36⟩; have hE37 := hE32.then hw36; have hE38 := hE33.then hw36; have hE39 := (Evo.refl [] w29).then hw36; have hB41 := hw36.blk0 hB30; have hs1' := AJ hs1 (qI hzo).1; refine aH (aF (cO rfl rfl) ?_); refine aF (cO rfl rfl) ?_; refine aN (aN (aC (aA (aE (aB (aH (aP (vs := [_]) nG rfl (yL (s := bstr s1) (hG.evo0 hE37).glb) rfl ?_))))))); rintro _ w42 ⟨vy, n2, y, e3, rfl, hy1, hyp, hw43⟩; have hE45 := hE38.then hw43; have hE46 := hE39.then hw43; have hB48 := hw43.blk0 hB41; have hy1' := hy1; obtain ⟨m2, ra2, rc2, ka2, kc2, hm2, rfl, -⟩ := hy1.get; refine aH (aF (cO rfl rfl) ?_); refine aF (cO rfl rfl) ?_; refine dH rfl eI fun bu w49 hB50 hs51 hw52 => ?_; have hsz_bu := hs51; have hA54 := Apart.new (Lt.blk hB48) hs51; have hG56 := Ge.new hE45 hs51; have hG57 := Ge.new hE46 hs51; have hG58 := Ge.new (Evo.refl [] w42) hs51; have hE60 := hE45.then hw52; have hE61 := hE46.then hw52; have hE62 := (Evo.refl [] w42).then hw52; have hB64 := hw52.blk0 hB48; refine bN rfl rfl bD hB50 rfl rfl ⟨rfl, rfl, rfl, rfl, rfl, rfl, rfl, rfl, rfl, trivial⟩ fun w65 hB66 hw67 => ?_; have hE69 := hE60.step hw67 hG56.mem1; have hE70 := hE61.step hw67 hG57.mem1
    have hE71 := hE62.step hw67 hG58.mem1; have hB73 := hw67.blk hB64 hA54.nmem1
    try simp only [cV, Nat.reduceAdd] at hB66
    refine aN (aC (aA (aE (aB (aF (bY rfl bR bD hB73 rfl) (aP (vs := [_]) wX rfl (wH (RRx.pers _ _ _ _ _ _ hE69 hx1')) rfl ?_)))))); rintro _ w74 ⟨r1, rfl, hr1, hw75⟩; have hE77 := hE69.then hw75; have hE78 := hE70.then hw75; have hE79 := hE71.then hw75; have hB81 := hw75.blk0 hB73; have hB82 := hw75.blk0 hB66; obtain rfl : r1 = true := hr1.2 (qI hzo).1; refine aF (eJ rfl) ?_; refine aH (aK (aH (aK (aF (fH rfl rfl) ?_)))); refine aK (aH (aU (t := 43) rfl (fun hs43 => ?_) (fun hs43 => ?_)))
    ·obtain ⟨rfl, rfl⟩ := hs1'.resolve_right (fun h9 => hs43 h9.2.2); refine aK (aH (aK ?_)); refine aF (fB (r := .bool false) rfl rfl (fun w => by kernel_rfl)) ?_; refine aK (aY (aR (aH (aK (aH (aK ?_)))))); refine aF (fB (r := .bool false) rfl rfl (fun w => by kernel_rfl)) ?_; refine aK (aH (aG (aG (aG (cA ?_))))); refine cA ?_; refine cA ?_; refine cA ?_; refine aG (aK (aR (aR (aC (aA (cN rfl ?_)))))); refine aX (bM ?_); refine ⟨(), trivial, ⟨rfl, trivial⟩, hE78, ?_⟩
     trivial
    obtain ⟨hl1, rfl, rfl⟩ := hs1'.resolve_left (fun h9 => hs43 (by omega)); have hpz := yE (qI hzo).1 hl1
    obtain ⟨hyz0, rfl⟩ := hyp.resolve_right (fun h9 => by rw [hpz] at h9; cases h9.1)
    have hyz : y = z := by rw [hpz] at hyz0; cases hyz0; rfl
    refine aG (aG (aK (aR (aR (aH (aK (aH (aK ?_)))))))); refine aF (fB (r := .bool true) rfl rfl (fun w => by kernel_rfl)) ?_; refine aK (aH (aK (aH (aK ?_)))); refine aF (fB (r := .bool false) rfl rfl (fun w => by kernel_rfl)) ?_; refine aK (aH (aK (aF (bY rfl bR bD hB82 rfl) (aK (aF (bY rfl bR bD hB81 rfl) (aK (aP (vs := [_, _]) sB rfl (zQ (RRx.pers _ _ _ _ _ _ hE79 hy1') (RRx.pers _ _ _ _ _ _ hE77 hx1')) rfl ?_))))))); rintro _ w83 ⟨r2, rfl, hr2, hw84⟩; have hE87 := hE78.then hw84; obtain rfl : r2 = true := hr2.2 hyz; refine aK (aF (eJ rfl) ?_); refine aK (aR (aK (aY (aR (aC (aA (cN rfl ?_))))))); refine aX (bM ?_); refine ⟨(), trivial, ⟨rfl, trivial⟩, hE87, ?_⟩
    trivial
   refine aX (bM ?_); refine ⟨(), trivial, ⟨rfl, trivial⟩, (Evo.refl [] w29), ?_⟩
   trivial
  rintro x w92 ⟨hV93, _⟩; refine aA ?_; show CW _ _ _ _ [(2, _)] _; have hE94 := hE32.then hV93; have hB96 := hV93.blk0 hB34; refine aE (aB (aF (bY rfl bR bD hB96 rfl) (aP (vs := [_]) wX rfl (wH (RRx.pers _ _ _ _ _ _ hE94 hx0)) rfl ?_))); rintro _ w98 ⟨r3, rfl, hr3, hw99⟩; have hE100 := hE94.then hw99; have hB102 := hw99.blk0 hB96; refine aN (aC (aA (aE (aB (aF (bY rfl bR bD hB102 rfl) (aP (vs := [_]) sA rfl (EP (hG.evo0 hE100) (RRx.pers _ _ _ _ _ _ hE100 hx0) hms) rfl ?_)))))); rintro _ w104 ⟨s2, e4, hs2, rfl, hw105⟩; have hE106 := hE100.then hw105; have hB108 := hw105.blk0 hB102; refine aH (aF (cO rfl rfl) ?_); refine aF (cO rfl rfl) ?_; refine aN (aN (aC (aA (aE (aE (aB (aH (aF (eJ rfl) ?_)))))))); refine aC (aA (fX rfl (fun hc70 => ?_) (fun hc70 => ?_)))
  ·obtain ⟨rfl, rfl⟩ := QH hs2 (fun h9 => by simp [hr3.2 h9] at hc70); refine aE (aB (aH ?_)); refine aF (fB (r := .bool true) rfl rfl (fun w => by kernel_rfl)) ?_; refine aH (aK (aH (aK ?_))); refine aF (fB (r := .bool true) rfl rfl (fun w => by kernel_rfl)) ?_; refine aY (aN (aC (aA (aO (aM (br1 ?_)))))); exact ⟨rfl, hE106⟩
  have hok := hr3.1 (by simpa using hc70); have hs2' := AJ hs2 hok; refine aX (aA (aE (aE (aB (aH (aF (fH rfl rfl) ?_)))))); refine aC (aA (bG rfl (fun hc78 => ?_) (fun hc78 => ?_)))
  ·obtain ⟨rfl, rfl⟩ := hs2'.resolve_right (fun h9 => by have := h9.2.2; omega)
   refine aE (aB (aH ?_)); refine aF (fB (r := .bool true) rfl rfl (fun w => by kernel_rfl)) ?_; refine aH (aK (aH (aK ?_))); refine aF (fB (r := .bool true) rfl rfl (fun w => by kernel_rfl)) ?_; refine aY (aN (aC (aA (aO (aM (br1 ?_)))))); exact ⟨rfl, hE106⟩
  obtain ⟨hln, rfl, rfl⟩ := hs2'.resolve_left (fun h9 => by have := h9.2; omega)
  have hps := yE hok hln; refine aX (aA (aE (aB (aH (aP (vs := [_]) nG rfl (FG (s := bstr (iD t)) (hG.evo0 hE106).glb hps) rfl ?_))))); rintro _ w110 ⟨vv, bs, rfl, hOT, hFr, hw111⟩; have hE112 := hE106.then hw111; have hB114 := hw111.blk0 hB108; obtain ⟨n3, hv1⟩ := hOT.rrx (X := []) (fun b _ h => by cases h); have hv1' := hv1; obtain ⟨m3, ra3, rc3, ka3, kc3, hm3, rfl, -⟩ := hv1.get; refine aH (aF (cO rfl rfl) ?_); refine aF (cO rfl rfl) ?_; refine dH rfl eI fun bv w116 hB117 hs118 hw119 => ?_; have hsz_bv := hs118; have hA120 := Apart.new (Lt.blk hB114) hs118; have hG122 := Ge.new hE112 hs118; have hG124 := Ge.new (Evo.refl [] w110) hs118; have hE125 := hE112.then hw119; have hE127 := (Evo.refl [] w110).then hw119; have hB128 := hw119.blk0 hB114; refine bN rfl rfl bD hB117 rfl rfl ⟨rfl, rfl, rfl, rfl, rfl, rfl, rfl, rfl, rfl, trivial⟩ fun w130 hB131 hw132 => ?_; have hE133 := hE125.step hw132 hG122.mem1; have hE135 := hE127.step hw132 hG124.mem1; have hB136 := hw132.blk hB128 hA120.nmem1
  try simp only [cV, Nat.reduceAdd] at hB131
  refine aN (aC (aA (aE (aB (aH ?_))))); refine aF (fB (r := .bool true) rfl rfl (fun w => by kernel_rfl)) ?_; refine aH (aK (aF (bY rfl bR bD hB136 rfl) (aK (aF (bY rfl bR bD hB131 rfl) (aK (aP (vs := [_, _]) sB rfl (zQ (RRx.pers _ _ _ _ _ _ hE133 hx0) (RRx.pers _ _ _ _ _ _ hE135 hv1')) rfl ?_)))))); rintro _ w138 ⟨r5, rfl, hr5, hw139⟩; have hE140 := hE133.then hw139; obtain rfl : r5 = true := hr5.2 rfl; refine aY (aH (aK (aH (aK (aF (cT rfl Tryz.underlying9 rfl) ?_))))); refine aK (aF (fP rfl rfl) ?_); refine aY (aN (aC (aA (aO (br1 ?_)))))
  exact ⟨congrArg Value.bool (decide_eq_true (by rw [bsz]; omega)), hE140⟩
end Go.Proofs.YtljadkcojnlioaaGreatDoor
namespace Go.Proofs.YtljadkcojnlioaaGreatDoor
open Go.ChangeAt Go.ChangeShapes Go.RowKit Go.W Go.WideShapes
set_option maxRecDepth 100000 in
theorem UH (H : Type) (enc : TypeId × Value → H) (W : World) (base : Nat) (args : Array Value) (ds gs : List (DataW H)) (before : List MemPlace)
    (hval : ∀ (j : Nat) t v, Tryz.f5.params[j]? = some t → args[j]? = some v → Value.okWide Tryz.prog W .any base t v)
    (hW : DataW.Whole enc Tryz.prog Tryz.f5.params.toList Rows.rxtreeBackSpec.vars false W args.toList ds gs before) (hk : Rows.uptoSmall H (ds ++ gs) = true)
    (hsz : (DataW.weightsEach Tryz.prog (Tryz.f5.params.toList ++ Rows.rxtreeBackSpec.plain.varTypes Tryz.prog) (ds ++ gs)).all (· ≤ reachBytes) = true) (hG : Gw W) :
    Calls Tryz.prog 5 args W fun e W' => ∃ v, e = .returned v ∧ Rows.rxtreeBackSpec.post enc Tryz.prog Tryz.f5 false true false false W args v W' := by
  have hW' := hW
  obtain ⟨p, q, hA0, hV, rfl, hfz, hnd⟩ := hW
  have hA : DataW.TrodAll enc Tryz.prog W 0 (fun _ => true) true Tryz.f5.params.toList args.toList ds p := hA0
  rw [Tryz.params5] at hA hval hsz
  obtain ⟨v0, vs0, d0, ds0, p0, q0, hargs0, rfl, rfl, h0, r0⟩ := trodAll_cons hA
  obtain ⟨v1, vs1, d1, ds1, p1, q1, hargs1, rfl, rfl, h1, r1⟩ := trodAll_cons r0
  obtain ⟨hn1, rfl, rfl⟩ := trodAll_nil r1
  subst hn1
  subst hargs1
  obtain rfl : args = #[v0, v1] := by cases args; simp_all
  obtain ⟨rfl, rfl⟩ := trodVars_none hV
  have hbk := of_decide_eq_true hk
  simp only [List.append_nil, List.cons_append, List.nil_append, Rows.uptoBulkAll] at hbk
  have k0 := h0
  have lt0 : ∀ x ∈ p0, x.block < W.heap.size := by obtain ⟨m, hm⟩ := k0; exact DataW.trod_lt m _ _ _ hm
  obtain ⟨f0, hf0⟩ := h0
  obtain ⟨t0, hx0, hm0⟩ := LN f0 H enc W f0 _ _ (Nat.le_refl _) hf0 (fun n hn => by have := List.all_eq_true.1 hsz n (DataW.weights_mem_each (j := 0) rfl rfl n hn); simpa using this) (by simp only; omega)
  try dsimp only at hm0
  have hv0 : v0 = .agg v0.cells.toList.toArray := by
    obtain ⟨m, ra, rc, ka, kc, -, hcs, -⟩ := hx0.get
    cases v0 <;> simp [Value.cells] at hcs ⊢
  rw [hv0]
  have k1 := h1
  have lt1 : ∀ x ∈ p1, x.block < W.heap.size := by obtain ⟨m, hm⟩ := k1; exact DataW.trod_lt m _ _ _ hm
  obtain ⟨f1, hf1⟩ := h1
  obtain ⟨s1, ⟨hc1, hs1⟩, -⟩ := yO f1 Tryz.underlying9 H enc W f1 _ _ (Nat.le_refl _) hf1 (fun n hn => by have := List.all_eq_true.1 hsz n (DataW.weights_mem_each (j := 1) rfl rfl n hn); simpa using this) (by simp only; omega)
  obtain ⟨z1, rfl⟩ := okWide_string Tryz.underlying9 (hval 1 9 _ rfl rfl)
  simp [Value.cells] at hc1
  subst hc1
  refine (UV z1 hG hx0 (by omega)).mono fun e W' ⟨v, he, hv, bel⟩ => ?_
  subst he hv
  rw [← hv0]
  exact ⟨_, rfl, _, _, _, [], _, [], hW', trodAll_mk1 (shut_bool Tryz.underlying4 _), (trodAll_cons_mk (Below.trod MF (by kernel_rfl) (of_decide_eq_true (by kernel_rfl)) k0 bel.below lt0) (trodAll_cons_mk (Below.trod MF (by kernel_rfl) (of_decide_eq_true (by kernel_rfl)) k1 bel.below lt1) trodAll_mk0)), rfl, bel.below.frame _, fun h => by cases h⟩
theorem SZ (os : Os) : laidMet Tryz.prog laidL ((vQ os).forCall (fun _ _ => 0) ⟨#[], #[.agg #[.int .i64 0, .int .i32 0, .slice none 0 0, .int .i64 0, .int .i64 0, .bool false, .int .i64 0, .string ByteArray.empty, .slice none 0 0], .string ByteArray.empty], []⟩).memory :=
  laidMet_of_run' 8 (by kernel_rfl) (by kernel_rfl)
theorem reads (os : Os) {H : Type} (enc : TypeId × Value → H) : ∃ places, DataW.whole enc Tryz.prog ((vQ os).forCall (fun _ _ => 0) ⟨#[], #[.agg #[.int .i64 0, .int .i32 0, .slice none 0 0, .int .i64 0, .int .i64 0, .bool false, .int .i64 0, .string ByteArray.empty, .slice none 0 0], .string ByteArray.empty], []⟩).memory Tryz.f5.params.toList Rows.rxtreeBackSpec.vars false (#[.agg #[.int .i64 0, .int .i32 0, .slice none 0 0, .int .i64 0, .int .i64 0, .bool false, .int .i64 0, .string ByteArray.empty, .slice none 0 0], .string ByteArray.empty] : Array Value).toList 8 = some ([.agg [.lit (.int .i64 0), .lit (.int .i32 0), .nil, .lit (.int .i64 0), .lit (.int .i64 0), .lit (.bool false), .lit (.int .i64 0), .lit (.string []), .nil], .lit (.string [])], [], places) :=
  ⟨[], by kernel_rfl⟩
set_option maxRecDepth 100000 in
theorem lifted (os : Os) (started : os.Started) (H : Type) (enc : TypeId × Value → H) (F : Stop.Interp) :
    ReturnsInHanded {} Tryz.checked os 5 .any ((Rows.OpenSpec.upto Rows.rxtreeBackSpec).preRow enc Tryz.prog Tryz.f5 Rows.rxtreeBackUptoRow.domain false Rows.rxtreeBackUptoRow.laid) (((Rows.OpenSpec.upto Rows.rxtreeBackSpec).at F).post enc Tryz.prog Tryz.f5 false true false false) := by
  obtain ⟨places, hx⟩ := reads os enc
  refine returnsInHanded_of_row (C := Tryz.checked) (s := (Rows.OpenSpec.upto Rows.rxtreeBackSpec)) own started (by kernel_rfl) Tryz.func5
    (witness_row_at (enc := enc) (C := Tryz.checked) false (vQ os) #[.agg #[.int .i64 0, .int .i32 0, .slice none 0 0, .int .i64 0, .int .i64 0, .bool false, .int .i64 0, .string ByteArray.empty, .slice none 0 0], .string ByteArray.empty] rfl (by kernel_rfl) (by kernel_rfl) (by kernel_rfl)
      (OpenSpec.preRow_of_cond 8 hx (by kernel_rfl) (fun k hk => by cases hk; kernel_rfl) (by kernel_rfl) (SZ os))) ?_
  intro W base args ds gs before hval hW _ hk hsz hL hsh _
  exact UH H enc W base args ds gs before hval hW (hk _ rfl) hsz (gw_of hL hsh)
theorem said : Rows.RxtreeBackUptoSaid :=
  OpenClaim.holds_of_cond 5 Tryz.f5 rfl rfl rfl rfl rfl rfl rfl ⟨rfl, rfl, rfl, rfl, rfl⟩ rfl rfl rfl rfl rfl (by kernel_rfl) Tryz.func5 (by kernel_rfl)
    (of_decide_eq_true (by kernel_rfl)) (by unfold Func.isWrapper; first | (rw [if_pos (by decide +kernel)]; kernel_rfl) | (rw [if_neg (by decide +kernel)]; exact ⟨rfl, rfl⟩))
    (fun os started H enc _ F => by rw [OpenClaim.pre_eq_preRow]; exact lifted os started H enc F)
theorem plain (f : FuncId) (fn : Func) (hf : Tryz.pinned.checked.prog.funcNamed "weir/weirlaw08.RxtreeBack" = some f) (hfn : Tryz.pinned.checked.prog.funcs[f]? = some fn) :
    true = Tryz.pinned.checked.prog.looks [] ∧ ∀ (j : Nat) t, fn.params[j]? = some t → Tryz.pinned.checked.prog.wantsStandIn t = false := by
  obtain rfl : f = 5 := Option.some.inj ((show Tryz.prog.funcNamed "weir/weirlaw08.RxtreeBack" = some 5 by kernel_rfl).symm.trans hf) |>.symm
  obtain rfl : fn = Tryz.f5 := (Option.some.inj (Tryz.func5.symm.trans hfn)).symm
  refine ⟨ST, fun j t ht => ?_⟩
  rw [Tryz.params5] at ht
  rcases j with _ | _ | j
  · obtain rfl : t = 27 := by simpa using ht.symm
    exact (show Tryz.prog.wantsStandIn 27 = false by kernel_rfl)
  · obtain rfl : t = 9 := by simpa using ht.symm
    exact (show Tryz.prog.wantsStandIn 9 = false by kernel_rfl)
  · simp at ht
theorem rxtreeBack_card : Rows.RxtreeBackUptoCardSaid :=
  Claim7.holds_tied_plain_at .later [] _ _ _ _ said (fun _ h => by cases h) (by kernel_rfl) (fun _ h => by cases h) rxtreeBackUpto_row_tie rfl ⟨rfl, rfl⟩ (by kernel_rfl) rfl plain (by kernel_rfl)
#print axioms rxtreeBack_card
end Go.Proofs.YtljadkcojnlioaaGreatDoor
