/- Code and the places that a tree reaches: plain. -/
import Derived.Test.YtgboffefbpligaaTa
namespace Go.Proofs.Ytgboffefbpligaa
open Go.W Go.RowKit
set_option linter.unusedVariables false
set_option linter.unusedSimpArgs false

/-- A tree all of whose nodes are right. -/
inductive Good : Rx → Prop
  | mk {x : Rx} : NodeP x → (x.kind = 7 → 1 ≤ x.cap ∧ x.cap ≤ 100) → (∀ k, k ∈ x.kids → Good k) → Good x
theorem Good.node {x : Rx} (h : Good x) : NodeP x := by cases h; assumption
theorem Good.capb {x : Rx} (h : Good x) : x.kind = 7 → 1 ≤ x.cap ∧ x.cap ≤ 100 := by cases h; assumption
theorem Good.kid {x : Rx} (h : Good x) : ∀ k, k ∈ x.kids → Good k := by cases h; assumption

structure In where
  op : Int
  out : Int
  alt : Int
  arg : Int
  rs : List (Int × Int)

/-! ### how long a tree's code is -/
mutual
def Rx.esz : Rx → Nat
  | .mk k r rs mn mx lz cp nm ks =>
    if k = 1 then 0 else if k = 4 then eszs ks else if k = 5 then eszs ks + 2 * (ks.length - 1)
    else if k = 6 then (if mx = -1 then mn.toNat * eszs ks + eszs ks + 2 else mn.toNat * eszs ks + (mx - mn).toNat * (eszs ks + 1))
    else if k = 7 then eszs ks + 2 else 1
def eszs : List Rx → Nat
  | [] => 0
  | x :: xs => x.esz + eszs xs
end
theorem Rx.esz_eq (x : Rx) : x.esz = if x.kind = 1 then 0 else if x.kind = 4 then eszs x.kids else if x.kind = 5 then eszs x.kids + 2 * (x.kids.length - 1)
    else if x.kind = 6 then (if x.max = -1 then x.min.toNat * eszs x.kids + eszs x.kids + 2 else x.min.toNat * eszs x.kids + (x.max - x.min).toNat * (eszs x.kids + 1))
    else if x.kind = 7 then eszs x.kids + 2 else 1 := by
  cases x; rw [Rx.esz]; rfl

/-! ### blocks of code -/
def In.sp (lazy : Bool) (a b : Nat) : In := if lazy then ⟨3, b, a, 0, []⟩ else ⟨3, a, b, 0, []⟩
def Rep (B : Nat → Nat → Prop) : Nat → Nat → Nat → Prop
  | 0, a, b => a = b
  | r + 1, a, b => ∃ m, B a m ∧ Rep B r m b
def Opt (l : List In) (z : Bool) (B : Nat → Nat → Prop) (e : Nat) : Nat → Nat → Prop
  | 0, a => a = e
  | r + 1, a => ∃ m, l[a]? = some (In.sp z (a + 1) e) ∧ B (a + 1) m ∧ Opt l z B e r m
def leafIn (k : Int) (a : Nat) : In := ⟨if k = 13 then 9 else k - 3, (a : Int) + 1, 0, if k = 13 then 1 else 0, []⟩
mutual
def Blk (l : List In) : Rx → Nat → Nat → Prop
  | .mk k r rs mn mx lz cp nm ks, a, b =>
    (k = 1 → b = a) ∧
    (k = 2 → b = a + 1 ∧ l[a]? = some ⟨2, (a : Int) + 1, 0, 0, [(r, r)]⟩) ∧
    (k = 3 → b = a + 1 ∧ l[a]? = some (if rs = [] then ⟨11, 0, 0, 0, []⟩ else ⟨2, (a : Int) + 1, 0, 0, rs⟩)) ∧
    (k = 4 → Blks l ks a b) ∧
    (k = 5 → BlkA l ks a b) ∧
    (k = 6 → ∃ m, Rep (Blks l ks) mn.toNat a m ∧ (mx = -1 → ∃ m', l[m]? = some (In.sp lz (m + 1) b) ∧ Blks l ks (m + 1) m' ∧ l[m']? = some ⟨10, (m : Int), 0, 0, []⟩ ∧ b = m' + 1) ∧
      (mx ≠ -1 → Opt l lz (Blks l ks) b (mx - mn).toNat m)) ∧
    (k = 7 → ∃ m, l[a]? = some ⟨4, (a : Int) + 1, 0, 2 * cp, []⟩ ∧ Blks l ks (a + 1) m ∧ l[m]? = some ⟨4, (m : Int) + 1, 0, 2 * cp + 1, []⟩ ∧ b = m + 1) ∧
    (8 ≤ k → b = a + 1 ∧ l[a]? = some (leafIn k a))
def Blks (l : List In) : List Rx → Nat → Nat → Prop
  | [], a, b => a = b
  | x :: xs, a, b => ∃ m, Blk l x a m ∧ Blks l xs m b
def BlkA (l : List In) : List Rx → Nat → Nat → Prop
  | [], _, _ => False
  | x :: xs, a, b => (xs = [] → Blk l x a b) ∧ (xs ≠ [] → ∃ m, l[a]? = some (In.sp false (a + 1) (m + 1)) ∧ Blk l x (a + 1) m ∧ l[m]? = some ⟨10, (b : Int), 0, 0, []⟩ ∧ BlkA l xs (m + 1) b)
end

/-! ### what a tree matches -/
def InR (c : Int) (l : List (Int × Int)) : Prop := ∃ g, g ∈ l ∧ g.1 ≤ c ∧ c ≤ g.2
def wordI (c : Int) : Prop := (48 ≤ c ∧ c ≤ 57) ∨ (65 ≤ c ∧ c ≤ 90) ∨ (97 ≤ c ∧ c ≤ 122) ∨ c = 95
def Bef (rs : List Int) (i : Nat) : Prop := 0 < i ∧ ∃ c, rs[i - 1]? = some c ∧ wordI c
def Aft (rs : List Int) (i : Nat) : Prop := ∃ c, rs[i]? = some c ∧ wordI c
def Plc (rs : List Int) (k : Int) (i : Nat) : Prop :=
  (k = 8 ∧ i = 0) ∨ (k = 9 ∧ i = rs.length) ∨ (k = 10 ∧ (i = 0 ∨ rs[i - 1]? = some 10)) ∨ (k = 11 ∧ (i = rs.length ∨ rs[i]? = some 10)) ∨ (k = 12 ∧ ¬ (Bef rs i ↔ Aft rs i)) ∨ (k = 13 ∧ (Bef rs i ↔ Aft rs i))
def It (R : Nat → Nat → Prop) : Nat → Nat → Nat → Prop
  | 0, i, j => i = j
  | c + 1, i, j => ∃ k, R i k ∧ It R c k j
mutual
def Mt (rs : List Int) : Rx → Nat → Nat → Prop
  | .mk k r g mn mx lz cp nm ks, i, j =>
    (k = 1 ∧ i = j) ∨ (k = 2 ∧ j = i + 1 ∧ rs[i]? = some r) ∨ (k = 3 ∧ j = i + 1 ∧ ∃ c, rs[i]? = some c ∧ InR c g) ∨ (k = 4 ∧ Mts rs ks i j) ∨ (k = 5 ∧ MtA rs ks i j) ∨
    (k = 6 ∧ ∃ c, mn.toNat ≤ c ∧ (mx = -1 ∨ c ≤ mx.toNat) ∧ It (Mts rs ks) c i j) ∨ (k = 7 ∧ Mts rs ks i j) ∨ (8 ≤ k ∧ i = j ∧ Plc rs k i)
def Mts (rs : List Int) : List Rx → Nat → Nat → Prop
  | [], i, j => i = j
  | x :: xs, i, j => ∃ k, Mt rs x i k ∧ Mts rs xs k j
def MtA (rs : List Int) : List Rx → Nat → Nat → Prop
  | [], _, _ => False
  | x :: xs, i, j => Mt rs x i j ∨ MtA rs xs i j
end
theorem It.add {R : Nat → Nat → Prop} {a b : Nat} : ∀ {i j}, It R (a + b) i j ↔ ∃ k, It R a i k ∧ It R b k j := by
  induction a with
  | zero => intro i j; simp only [Nat.zero_add, It]; constructor; exact fun h => ⟨i, rfl, h⟩; rintro ⟨k, rfl, h⟩; exact h
  | succ a ih =>
    intro i j
    rw [show a + 1 + b = (a + b) + 1 from by omega]
    simp only [It]
    constructor
    · rintro ⟨k, h1, h2⟩
      obtain ⟨m, h3, h4⟩ := ih.1 h2
      exact ⟨m, ⟨k, h1, h3⟩, h4⟩
    · rintro ⟨m, ⟨k, h1, h3⟩, h4⟩
      exact ⟨k, h1, ih.2 ⟨m, h3, h4⟩⟩

/-! ### ways through the code -/
def GoesOn (rs : List Int) (c : In) (i : Nat) : Prop := c.op = 3 ∨ c.op = 4 ∨ c.op = 10 ∨ (5 ≤ c.op ∧ c.op ≤ 8 ∧ Plc rs (c.op + 3) i) ∨ (c.op = 9 ∧ Plc rs (if c.arg = 0 then 12 else 13) i)
def Eps (l : List In) (rs : List Int) (i p q : Nat) : Prop := ∃ c, l[p]? = some c ∧ GoesOn rs c i ∧ ((q : Int) = c.out ∨ (c.op = 3 ∧ (q : Int) = c.alt))
def Eat (l : List In) (rs : List Int) (i p q : Nat) : Prop := ∃ c, l[p]? = some c ∧ c.op = 2 ∧ (q : Int) = c.out ∧ ∃ r, rs[i]? = some r ∧ InR r c.rs
def Step (l : List In) (rs : List Int) (p i q j : Nat) : Prop := (j = i ∧ Eps l rs i p q) ∨ (j = i + 1 ∧ Eat l rs i p q)
/-- Ways from (p, i) to (q, j) whose instructions all stand in [a, b). -/
inductive Way (l : List In) (rs : List Int) (a b q j : Nat) : Nat → Nat → Prop
  | nil : Way l rs a b q j q j
  | cons {p i p' i' : Nat} : a ≤ p → p < b → Step l rs p i p' i' → Way l rs a b q j p' i' → Way l rs a b q j p i
variable {l : List In} {rs : List Int}
theorem Way.mono {a b c d q j p i : Nat} (h : Way l rs c d q j p i) (h1 : a ≤ c) (h2 : d ≤ b) : Way l rs a b q j p i := by
  induction h with
  | nil => exact .nil
  | cons ha hb hs _ ih => exact .cons (by omega) (by omega) hs ih
theorem Way.trans {a b q j m k p i : Nat} (h : Way l rs a b m k p i) (h1 : Way l rs a b q j m k) : Way l rs a b q j p i := by
  induction h with
  | nil => exact h1
  | cons ha hb hs _ ih => exact .cons ha hb hs ih
theorem Way.done {a b q j i : Nat} (h : Way l rs a b q j b i) : q = b ∧ i = j := by
  cases h with
  | nil => exact ⟨rfl, rfl⟩
  | cons ha hb => omega
def Closed (l : List In) (rs : List Int) (a b : Nat) : Prop := ∀ p i q j, a ≤ p → p < b → Step l rs p i q j → a ≤ q ∧ q ≤ b
theorem Way.cut {a b c d j p i : Nat} (h : Way l rs a b b j p i) (hc : Closed l rs c d) (h1 : a ≤ c) (h2 : d ≤ b) (h3 : c ≤ p) (h4 : p ≤ d) : ∃ k, Way l rs c d d k p i ∧ Way l rs a b b j d k := by
  induction h with
  | nil => obtain rfl : b = d := by omega
           exact ⟨_, .nil, .nil⟩
  | cons ha hb hs hw ih =>
    rename_i p i p' i'
    by_cases e : p = d
    · subst e; exact ⟨i, .nil, .cons ha hb hs hw⟩
    · obtain ⟨h5, h6⟩ := hc _ _ _ _ h3 (by omega) hs
      obtain ⟨k, h7, h8⟩ := ih h5 h6
      exact ⟨k, .cons h3 (by omega) hs h7, h8⟩
structure Leads (l : List In) (rs : List Int) (a b : Nat) (R : Nat → Nat → Prop) : Prop where
  le : a ≤ b
  cl : Closed l rs a b
  way : ∀ i j, Way l rs a b b j a i ↔ R i j
theorem Leads.congr {a b : Nat} {R S : Nat → Nat → Prop} (h : Leads l rs a b R) (e : ∀ i j, R i j ↔ S i j) : Leads l rs a b S := ⟨h.le, h.cl, fun i j => (h.way i j).trans (e i j)⟩
theorem leads_nil (a : Nat) : Leads l rs a a (fun i j => i = j) := ⟨Nat.le_refl _, fun p i q j h1 h2 => by omega, fun i j => ⟨fun h => h.done.2, fun h => h ▸ .nil⟩⟩
theorem step_get {a i q j : Nat} {c : In} (h : l[a]? = some c) (hs : Step l rs a i q j) : (j = i ∧ GoesOn rs c i ∧ ((q : Int) = c.out ∨ (c.op = 3 ∧ (q : Int) = c.alt))) ∨ (j = i + 1 ∧ c.op = 2 ∧ (q : Int) = c.out ∧ ∃ r, rs[i]? = some r ∧ InR r c.rs) := by
  rcases hs with ⟨rfl, c', hc, h1, h2⟩ | ⟨rfl, c', hc, h1, h2⟩
  · rw [h] at hc; cases hc; exact .inl ⟨rfl, h1, h2⟩
  · rw [h] at hc; cases hc; exact .inr ⟨rfl, h1, h2⟩
theorem leads_one {a : Nat} {c : In} (h : l[a]? = some c) (h1 : c.op = 3 → False) (h2 : c.out = (a : Int) + 1 ∨ c.op = 11) :
    Leads l rs a (a + 1) (fun i j => (j = i ∧ GoesOn rs c i) ∨ (j = i + 1 ∧ c.op = 2 ∧ ∃ r, rs[i]? = some r ∧ InR r c.rs)) := by
  have h11 : c.op = 11 → ∀ i, ¬ GoesOn rs c i := fun h i hg => by unfold GoesOn at hg; omega
  have hout : ∀ {q i}, GoesOn rs c i ∨ c.op = 2 → (q : Int) = c.out → q = (a : Int) + 1 := fun hg e => by
    rcases h2 with h2 | h2
    · omega
    · rcases hg with hg | hg
      · exact (h11 h2 _ hg).elim
      · omega
  refine ⟨by omega, fun p i q j hp hp' hs => ?_, fun i j => ⟨fun hw => ?_, fun hr => ?_⟩⟩
  · obtain rfl : p = a := by omega
    rcases step_get h hs with ⟨rfl, hg, h3 | ⟨h3, -⟩⟩ | ⟨rfl, h3, h4, -⟩
    · have := hout (.inl hg) h3; omega
    · exact (h1 h3).elim
    · have := hout (i := i) (.inr h3) h4; omega
  · cases hw with
    | cons ha hb hs hw =>
      rcases step_get h hs with ⟨rfl, hg, h3 | ⟨h3, -⟩⟩ | ⟨rfl, h3, h4, h5⟩
      · rename_i p' _
        obtain rfl : p' = a + 1 := by have := hout (.inl hg) h3; omega
        obtain ⟨-, rfl⟩ := hw.done
        exact .inl ⟨rfl, hg⟩
      · exact (h1 h3).elim
      · rename_i p'
        obtain rfl : p' = a + 1 := by have := hout (i := i) (.inr h3) h4; omega
        obtain ⟨-, rfl⟩ := hw.done
        exact .inr ⟨rfl, h3, h5⟩
  · rcases hr with ⟨rfl, hg⟩ | ⟨rfl, h3, h5⟩
    · refine .cons (Nat.le_refl _) (by omega) (.inl ⟨rfl, c, h, hg, .inl ?_⟩) .nil
      rcases h2 with h2 | h2
      · omega
      · exact (h11 h2 _ hg).elim
    · refine .cons (Nat.le_refl _) (by omega) (.inr ⟨rfl, c, h, h3, ?_, h5⟩) .nil
      omega
theorem leads_seq {a m b : Nat} {R S : Nat → Nat → Prop} (h1 : Leads l rs a m R) (h2 : Leads l rs m b S) : Leads l rs a b (fun i j => ∃ k, R i k ∧ S k j) := by
  have e1 := h1.le
  have e2 := h2.le
  refine ⟨by omega, fun p i q j hp hp' hs => ?_, fun i j => ⟨fun hw => ?_, ?_⟩⟩
  · by_cases e : p < m
    · have := h1.cl p i q j hp e hs; omega
    · have := h2.cl p i q j (by omega) hp' hs; omega
  · obtain ⟨k, w1, w2⟩ := hw.cut h1.cl (by omega) (by omega) (by omega) (by omega)
    obtain ⟨k', w3, w4⟩ := w2.cut h2.cl (by omega) (by omega) (by omega) (by omega)
    obtain ⟨-, rfl⟩ := w4.done
    exact ⟨k, (h1.way _ _).1 w1, (h2.way _ _).1 w3⟩
  · rintro ⟨k, r1, r2⟩
    exact (((h1.way _ _).2 r1).mono (Nat.le_refl _) (by omega)).trans (((h2.way _ _).2 r2).mono (by omega) (Nat.le_refl _))
theorem leads_rep {B : Nat → Nat → Prop} {R : Nat → Nat → Prop} (hB : ∀ a b, B a b → Leads l rs a b R) : ∀ {n a b}, Rep B n a b → Leads l rs a b (It R n)
  | 0, a, b, h => by cases h; exact leads_nil a
  | n + 1, a, b, ⟨m, h1, h2⟩ => leads_seq (hB _ _ h1) (leads_rep hB h2)
theorem sp_get {z : Bool} {a x y i q j : Nat} (h : l[a]? = some (In.sp z x y)) (hs : Step l rs a i q j) : j = i ∧ (q = x ∨ q = y) := by
  rcases step_get h hs with ⟨rfl, hg, h3⟩ | ⟨rfl, h3, -⟩
  · refine ⟨rfl, ?_⟩
    unfold In.sp at h3
    split at h3 <;> simp only at h3 <;> omega
  · unfold In.sp at h3
    split at h3 <;> simp only at h3 <;> omega
theorem sp_in {z : Bool} {a x y i : Nat} (h : l[a]? = some (In.sp z x y)) : Step l rs a i x i := by
  refine .inl ⟨rfl, _, h, ?_, ?_⟩
  · unfold GoesOn In.sp; split <;> simp
  · unfold In.sp; split <;> simp
theorem sp_out {z : Bool} {a x y i : Nat} (h : l[a]? = some (In.sp z x y)) : Step l rs a i y i := by
  refine .inl ⟨rfl, _, h, ?_, ?_⟩
  · unfold GoesOn In.sp; split <;> simp
  · unfold In.sp; split <;> simp
theorem jp_get {a x i q j : Nat} (h : l[a]? = some ⟨10, (x : Int), 0, 0, []⟩) (hs : Step l rs a i q j) : j = i ∧ q = x := by
  rcases step_get h hs with ⟨rfl, hg, h3 | ⟨h3, -⟩⟩ | ⟨rfl, h3, -⟩
  · exact ⟨rfl, by simp only at h3; omega⟩
  · simp only at h3; omega
  · simp only at h3; omega
theorem jp_in {a x i : Nat} (h : l[a]? = some ⟨10, (x : Int), 0, 0, []⟩) : Step l rs a i x i := .inl ⟨rfl, _, h, .inr (.inr (.inl rfl)), .inl rfl⟩
theorem leads_opt {z : Bool} {B : Nat → Nat → Prop} {R : Nat → Nat → Prop} {e : Nat} (hB : ∀ a b, B a b → Leads l rs a b R) : ∀ {r a}, Opt l z B e r a → Leads l rs a e (fun i j => ∃ c, c ≤ r ∧ It R c i j)
  | 0, a, h => by
    cases h
    refine (leads_nil _).congr fun i j => ⟨fun h => ⟨0, Nat.le_refl _, h⟩, ?_⟩
    rintro ⟨c, hc, h⟩
    obtain rfl : c = 0 := by omega
    exact h
  | r + 1, a, ⟨m, h1, h2, h3⟩ => by
    have f1 := hB _ _ h2
    have f2 := leads_opt hB h3
    have e1 := f1.le
    have e2 := f2.le
    refine ⟨by omega, fun p i q j hp hp' hs => ?_, fun i j => ⟨fun hw => ?_, ?_⟩⟩
    · by_cases e : p = a
      · subst e; have := sp_get h1 hs; omega
      · by_cases e : p < m
        · have := f1.cl p i q j (by omega) e hs; omega
        · have := f2.cl p i q j (by omega) hp' hs; omega
    · cases hw with
      | nil => omega
      | cons ha hb hs hw =>
        obtain ⟨rfl, h4⟩ := sp_get h1 hs
        rcases h4 with rfl | rfl
        · obtain ⟨k, w1, w2⟩ := hw.cut f1.cl (by omega) (by omega) (by omega) (by omega)
          obtain ⟨k', w3, w4⟩ := w2.cut f2.cl (by omega) (by omega) (by omega) (by omega)
          obtain ⟨-, rfl⟩ := w4.done
          obtain ⟨c, hc, hi⟩ := (f2.way _ _).1 w3
          exact ⟨c + 1, by omega, k, (f1.way _ _).1 w1, hi⟩
        · obtain ⟨-, rfl⟩ := hw.done
          exact ⟨0, by omega, rfl⟩
    · rintro ⟨c, hc, hi⟩
      cases c with
      | zero => cases hi; exact .cons (Nat.le_refl _) (by omega) (sp_out h1) .nil
      | succ c =>
        obtain ⟨k, r1, r2⟩ := hi
        exact .cons (Nat.le_refl _) (by omega) (sp_in h1) ((((f1.way _ _).2 r1).mono (by omega) (by omega)).trans (((f2.way _ _).2 ⟨c, by omega, r2⟩).mono (by omega) (Nat.le_refl _)))
theorem leads_loop {z : Bool} {R : Nat → Nat → Prop} {a m : Nat} (h1 : l[a]? = some (In.sp z (a + 1) (m + 1))) (f1 : Leads l rs (a + 1) m R) (h2 : l[m]? = some ⟨10, (a : Int), 0, 0, []⟩) : Leads l rs a (m + 1) (fun i j => ∃ c, It R c i j) := by
  have e1 := f1.le
  have key : ∀ {j p i}, Way l rs a (m + 1) (m + 1) j p i → (p = a → ∃ c, It R c i j) ∧ (a + 1 ≤ p → p ≤ m → ∃ k c, Way l rs (a + 1) m m k p i ∧ It R c k j) := by
    intro j p i hw
    induction hw with
    | nil => exact ⟨fun h => by omega, fun _ h => by omega⟩
    | cons ha hb hs hw ih =>
      rename_i p i p' i'
      refine ⟨fun e => ?_, fun h3 h4 => ?_⟩
      · subst e
        obtain ⟨rfl, h4⟩ := sp_get h1 hs
        rcases h4 with rfl | rfl
        · obtain ⟨k, c, w1, w2⟩ := ih.2 (by omega) (by omega)
          exact ⟨c + 1, k, (f1.way _ _).1 w1, w2⟩
        · obtain ⟨-, rfl⟩ := hw.done
          exact ⟨0, rfl⟩
      · by_cases e : p = m
        · subst e
          obtain ⟨rfl, rfl⟩ := jp_get h2 hs
          obtain ⟨c, hc⟩ := ih.1 rfl
          exact ⟨_, c, .nil, hc⟩
        · have h5 := f1.cl p i p' i' h3 (by omega) hs
          obtain ⟨k, c, w1, w2⟩ := ih.2 h5.1 h5.2
          exact ⟨k, c, .cons h3 (by omega) hs w1, w2⟩
  refine ⟨by omega, fun p i q j hp hp' hs => ?_, fun i j => ⟨fun hw => (key hw).1 rfl, ?_⟩⟩
  · by_cases e : p = a
    · subst e; have := sp_get h1 hs; omega
    · by_cases e : p = m
      · subst e; have := jp_get h2 hs; omega
      · have := f1.cl p i q j (by omega) (by omega) hs; omega
  · rintro ⟨c, hc⟩
    induction c generalizing i with
    | zero => cases hc; exact .cons (Nat.le_refl _) (by omega) (sp_out h1) .nil
    | succ c ih =>
      obtain ⟨k, r1, r2⟩ := hc
      exact .cons (Nat.le_refl _) (by omega) (sp_in h1) ((((f1.way _ _).2 r1).mono (by omega) (by omega)).trans (.cons (by omega) (by omega) (jp_in h2) (ih k r2)))
theorem leads_alt {R S : Nat → Nat → Prop} {a m b : Nat} (h1 : l[a]? = some (In.sp false (a + 1) (m + 1))) (f1 : Leads l rs (a + 1) m R) (h2 : l[m]? = some ⟨10, (b : Int), 0, 0, []⟩) (f2 : Leads l rs (m + 1) b S) :
    Leads l rs a b (fun i j => R i j ∨ S i j) := by
  have e1 := f1.le
  have e2 := f2.le
  refine ⟨by omega, fun p i q j hp hp' hs => ?_, fun i j => ⟨fun hw => ?_, ?_⟩⟩
  · by_cases e : p = a
    · subst e; have := sp_get h1 hs; omega
    · by_cases e : p = m
      · subst e; have := jp_get h2 hs; omega
      · by_cases e : p < m
        · have := f1.cl p i q j (by omega) (by omega) hs; omega
        · have := f2.cl p i q j (by omega) (by omega) hs; omega
  · cases hw with
    | nil => omega
    | cons ha hb hs hw =>
      obtain ⟨rfl, h4⟩ := sp_get h1 hs
      rcases h4 with rfl | rfl
      · obtain ⟨k, w1, w2⟩ := hw.cut f1.cl (by omega) (by omega) (by omega) (by omega)
        cases w2 with
        | nil => omega
        | cons ha hb hs hw =>
          obtain ⟨rfl, rfl⟩ := jp_get h2 hs
          obtain ⟨-, rfl⟩ := hw.done
          exact .inl ((f1.way _ _).1 w1)
      · obtain ⟨k, w1, w2⟩ := hw.cut f2.cl (by omega) (by omega) (by omega) (by omega)
        obtain ⟨-, rfl⟩ := w2.done
        exact .inr ((f2.way _ _).1 w1)
  · rintro (h | h)
    · exact .cons (Nat.le_refl _) (by omega) (sp_in h1) ((((f1.way _ _).2 h).mono (by omega) (by omega)).trans (.cons (by omega) (by omega) (jp_in h2) .nil))
    · exact .cons (Nat.le_refl _) (by omega) (sp_out h1) (((f2.way _ _).2 h).mono (by omega) (by omega))
theorem blks_leads : ∀ {ks : List Rx}, (∀ k, k ∈ ks → ∀ a b, Blk l k a b → Leads l rs a b (Mt rs k)) → ∀ {a b}, Blks l ks a b → Leads l rs a b (Mts rs ks)
  | [], _, a, b, h => by
    rw [Blks] at h; subst h
    exact (leads_nil a).congr fun i j => by rw [Mts]
  | x :: xs, hk, a, b, h => by
    rw [Blks] at h
    obtain ⟨m, h1, h2⟩ := h
    exact (leads_seq (hk x (by simp) _ _ h1) (blks_leads (fun k hk' => hk k (by simp [hk'])) h2)).congr fun i j => by rw [Mts]
theorem blka_leads : ∀ {ks : List Rx}, (∀ k, k ∈ ks → ∀ a b, Blk l k a b → Leads l rs a b (Mt rs k)) → ∀ {a b}, BlkA l ks a b → Leads l rs a b (MtA rs ks)
  | [], _, a, b, h => by rw [BlkA] at h; exact h.elim
  | x :: xs, hk, a, b, h => by
    rw [BlkA] at h
    obtain ⟨h1, h2⟩ := h
    by_cases e : xs = []
    · subst e
      exact (hk x (by simp) _ _ (h1 rfl)).congr fun i j => by rw [MtA, MtA]; simp
    · obtain ⟨m, h3, h4, h5, h6⟩ := h2 e
      exact (leads_alt h3 (hk x (by simp) _ _ h4) h5 (blka_leads (fun k hk' => hk k (by simp [hk'])) h6)).congr fun i j => by rw [MtA]
theorem num1 {mn mx : Int} (h1 : 0 ≤ mn) (h2 : mx = -1 ∨ mn ≤ mx ∧ mx ≤ 1000) (e : ¬ mx = -1) : mn.toNat + (mx - mn).toNat = mx.toNat := by omega
theorem num2 {a b c d : Nat} (h : a + b = d) (hc : c ≤ b) : a + c ≤ d := by omega
theorem num3 {a b c d : Nat} (h : a + b = d) (h7 : a ≤ c) (h9 : c ≤ d) : c - a ≤ b := by omega
theorem num4 {k : Int} {a : Nat} (h : ¬ k = 6) : (leafIn k a).op = 3 → False := by unfold leafIn; simp only; split <;> omega
theorem num5 {k : Int} {P Q : Prop} (k2 : k ≤ 13) (e : ¬ k = 13) (e9 : ¬ k = 12) (k1 : 1 ≤ k) (e1 : ¬ k = 1) (e2 : ¬ k = 2) (e3 : ¬ k = 3) (e4 : ¬ k = 4) (e5 : ¬ k = 5) (e6 : ¬ k = 6) (e7 : ¬ k = 7) :
    (k - 3 = 3 ∨ k - 3 = 4 ∨ k - 3 = 10 ∨ (5 ≤ k - 3 ∧ k - 3 ≤ 8 ∧ P) ∨ (k - 3 = 9 ∧ Q)) ↔ P := by
  constructor
  · rintro (h | h | h | ⟨-, -, h⟩ | ⟨h, -⟩)
    · omega
    · omega
    · omega
    · exact h
    · omega
  · exact fun h => .inr (.inr (.inr (.inl ⟨by omega, by omega, h⟩)))
theorem num6 (k : Int) : k - 3 + 3 = k := by omega
theorem num7 {k : Int} (k1 : 1 ≤ k) (e1 : ¬ k = 1) (e2 : ¬ k = 2) (e3 : ¬ k = 3) (e4 : ¬ k = 4) (e5 : ¬ k = 5) (e6 : ¬ k = 6) (e7 : ¬ k = 7) : 8 ≤ k := by omega
theorem num8 {k : Int} (k1 : 1 ≤ k) (e1 : ¬ k = 1) (e2 : ¬ k = 2) (e3 : ¬ k = 3) (e4 : ¬ k = 4) (e5 : ¬ k = 5) (e6 : ¬ k = 6) (e7 : ¬ k = 7) : k - 3 = 2 → False := by omega
/-- Through a tree's code a way leads from its beginning to its end just where the tree matches. -/
theorem blk_leads {x : Rx} (hg : Good x) : ∀ a b, Blk l x a b → Leads l rs a b (Mt rs x) := by
  induction hg with
  | @mk x hn hc _ ih =>
    intro a b hb
    have k1 := hn.kind1
    have k2 := hn.kind2
    have kr := hn.rep
    obtain ⟨k, r, g, mn, mx, lz, cp, nm, ks⟩ := x
    simp only [Rx.kind, Rx.kids, Rx.min, Rx.max] at *
    rw [Blk] at hb
    obtain ⟨b1, b2, b3, b4, b5, b6, b7, b8⟩ := hb
    by_cases e1 : k = 1
    · rw [b1 e1]
      exact (leads_nil a).congr fun i j => by rw [Mt]; subst e1; simp
    by_cases e2 : k = 2
    · obtain ⟨rfl, h⟩ := b2 e2
      refine (leads_one h (by simp) (.inl rfl)).congr fun i j => ?_
      rw [Mt]; subst e2
      simp [GoesOn, InR]
      intro _
      constructor
      · rintro ⟨r', h1, h2, h3⟩; obtain rfl : r = r' := by omega
        exact h1
      · exact fun h => ⟨r, h, Int.le_refl _, Int.le_refl _⟩
    by_cases e3 : k = 3
    · obtain ⟨rfl, h⟩ := b3 e3
      subst e3
      split at h
      · rename_i e; subst e
        refine (leads_one h (by simp) (.inr rfl)).congr fun i j => ?_
        rw [Mt]; simp [GoesOn, InR]
      · refine (leads_one h (by simp) (.inl rfl)).congr fun i j => ?_
        rw [Mt]; simp [GoesOn]
    by_cases e4 : k = 4
    · exact (blks_leads ih (b4 e4)).congr fun i j => by rw [Mt]; subst e4; simp
    by_cases e5 : k = 5
    · exact (blka_leads ih (b5 e5)).congr fun i j => by rw [Mt]; subst e5; simp
    by_cases e6 : k = 6
    · obtain ⟨m, h1, h2, h3⟩ := b6 e6
      obtain ⟨q1, q2, q3, q4⟩ := kr e6
      have f1 := leads_rep (fun a b h => blks_leads ih h) h1
      by_cases e : mx = -1
      · obtain ⟨m', h4, h5, h6, rfl⟩ := h2 e
        refine (leads_seq f1 (leads_loop h4 (blks_leads ih h5) h6)).congr fun i j => ?_
        rw [Mt]; subst e6
        simp only [Int.reduceEq, false_and, false_or, true_and, Int.reduceLE, or_false]
        constructor
        · rintro ⟨k, r1, c, r2⟩
          exact ⟨mn.toNat + c, by omega, .inl e, It.add.2 ⟨k, r1, r2⟩⟩
        · rintro ⟨c, h7, -, h8⟩
          obtain ⟨k, r1, r2⟩ := It.add.1 (show It _ (mn.toNat + (c - mn.toNat)) i j by rw [show mn.toNat + (c - mn.toNat) = c from by omega]; exact h8)
          exact ⟨k, r1, _, r2⟩
      · refine (leads_seq f1 (leads_opt (fun a b h => blks_leads ih h) (h3 e))).congr fun i j => ?_
        rw [Mt]; subst e6
        have q5 : mn.toNat + (mx - mn).toNat = mx.toNat := num1 q1 q3 e
        simp only [Int.reduceEq, false_and, false_or, true_and, Int.reduceLE, or_false]
        constructor
        · rintro ⟨k, r1, c, hc, r2⟩
          exact ⟨mn.toNat + c, by omega, .inr (num2 q5 hc), It.add.2 ⟨k, r1, r2⟩⟩
        · rintro ⟨c, h7, h9, h8⟩
          replace h9 : c ≤ mx.toNat := h9.resolve_left e
          obtain ⟨k, r1, r2⟩ := It.add.1 (show It _ (mn.toNat + (c - mn.toNat)) i j by rw [show mn.toNat + (c - mn.toNat) = c from by omega]; exact h8)
          exact ⟨k, r1, _, num3 q5 h7 h9, r2⟩
    by_cases e7 : k = 7
    · obtain ⟨m, h1, h2, h3, rfl⟩ := b7 e7
      refine (leads_seq (leads_one h1 (by simp) (.inl rfl)) (leads_seq (blks_leads ih h2) (leads_one h3 (by simp) (.inl rfl)))).congr fun i j => ?_
      rw [Mt]; subst e7
      simp [GoesOn]
    · obtain ⟨rfl, h⟩ := b8 (by omega)
      refine (leads_one h (num4 e6) (.inl rfl)).congr fun i j => ?_
      rw [Mt]
      simp only [e1, e2, e3, e4, e5, e6, e7, false_and, false_or]
      unfold leafIn GoesOn
      by_cases e : k = 13
      · subst e; simp; intro _; exact eq_comm
      · simp only [e, if_false]
        by_cases e9 : k = 12
        · subst e9; simp; intro _; exact eq_comm
        · rw [num6 k]
          try simp only [e, e9, if_false, false_and, or_false]
          constructor
          · rintro (⟨rfl, h⟩ | ⟨-, h, -⟩)
            · exact ⟨num7 k1 e1 e2 e3 e4 e5 e6 e7, rfl, (num5 k2 e e9 k1 e1 e2 e3 e4 e5 e6 e7).1 h⟩
            · exact (num8 k1 e1 e2 e3 e4 e5 e6 e7 h).elim
          · rintro ⟨h1, rfl, h2⟩
            exact .inl ⟨rfl, (num5 k2 e e9 k1 e1 e2 e3 e4 e5 e6 e7).2 h2⟩
end Go.Proofs.Ytgboffefbpligaa
