/- Trees: the datum, what stands for it, which are valid. -/
import Derived.Test.YtgboffefbpligaaProg
import Derived.Test.YtgboffefbpligaaFw9
namespace Go.Proofs.Ytgboffefbpligaa
open Go.W Go.RowKit
set_option linter.unusedVariables false
set_option linter.unusedSimpArgs false

abbrev iv (n : Int) : Value := .int .i64 n
abbrev sv (s : ByteArray) : Value := .string s
inductive Rx where
  | mk (kind r : Int) (ranges : List (Int × Int)) (min max : Int) (lazy : Bool) (cap : Int) (name : ByteArray) (kids : List Rx)
def Rx.kind : Rx → Int | .mk k _ _ _ _ _ _ _ _ => k
def Rx.r : Rx → Int | .mk _ r _ _ _ _ _ _ _ => r
def Rx.ranges : Rx → List (Int × Int) | .mk _ _ l _ _ _ _ _ _ => l
def Rx.min : Rx → Int | .mk _ _ _ m _ _ _ _ _ => m
def Rx.max : Rx → Int | .mk _ _ _ _ m _ _ _ _ => m
def Rx.lazy : Rx → Bool | .mk _ _ _ _ _ z _ _ _ => z
def Rx.cap : Rx → Int | .mk _ _ _ _ _ _ c _ _ => c
def Rx.name : Rx → ByteArray | .mk _ _ _ _ _ _ _ n _ => n
def Rx.kids : Rx → List Rx | .mk _ _ _ _ _ _ _ _ l => l
theorem Rx.eta (x : Rx) : x = .mk x.kind x.r x.ranges x.min x.max x.lazy x.cap x.name x.kids := by cases x; rfl
def RRg : Rel (Int × Int) := fun _ _ vs g => vs = [.int .i32 g.1, .int .i32 g.2]
theorem RRg.pers : RRg.Pers := fun _ _ _ _ _ _ h => h
theorem RRg.fresh : RRg.Fresh := fun _ _ _ _ _ _ h => h
def RRx : Nat → Rel Rx
  | 0 => fun _ _ _ _ => False
  | n + 1 => fun X w vs x => ∃ vr vk, vs = [iv x.kind, .int .i32 x.r, vr, iv x.min, iv x.max, .bool x.lazy, iv x.cap, .string x.name, vk] ∧ RSl 2 RRg X w vr x.ranges ∧ RSl 9 (RRx n) X w vk x.kids ∧
      x.ranges.length ≤ 140737488351232 ∧ x.name.size ≤ 140737488351232 ∧ x.kids.length ≤ 140737488351232
theorem RRx.pers : ∀ n, (RRx n).Pers
  | 0 => fun _ _ _ _ _ _ h => h.elim
  | n + 1 => fun X w w' vs x he ⟨vr, vk, h1, h2, h3, h4⟩ => ⟨vr, vk, h1, RSl.evo RRg.pers he h2, RSl.evo (RRx.pers n) he h3, h4⟩
theorem RRx.fresh : ∀ n, (RRx n).Fresh
  | 0 => fun _ _ _ _ _ _ h => h.elim
  | n + 1 => fun X Y w vs x hy ⟨vr, vk, h1, h2, h3, h4⟩ => ⟨vr, vk, h1, RSl.fresh (by decide) RRg.fresh hy h2, RSl.fresh (by decide) (RRx.fresh n) hy h3, h4⟩
theorem RRx.step {n : Nat} {X Y : List Nat} {w w' : World} {vs : List Value} {x : Rx} (h : RRx n X w vs x) (he : Evo X w w') (hy : ∀ y, y ∈ Y → y ∈ X ∨ w.heap.size ≤ y) (hb : ∀ b, b ∈ X → b < w.heap.size) : RRx n Y w' vs x := by
  have h1 : RRx n (Y ++ X) w vs x := RRx.fresh n X (Y ++ X) w vs x (fun y hy' => by rcases List.mem_append.1 hy' with h | h; exact hy y h; exact .inl h) h
  have h2 := RRx.pers n _ _ _ _ _ (he.mono (fun b hb => by simp [hb])) h1
  exact RRx.fresh n (Y ++ X) Y w' vs x (fun y hy' => .inl (by simp [hy'])) h2

/-! ### Valid -/
abbrev St := Nat × List ByteArray
def wordN (c : Nat) : Prop := (48 ≤ c ∧ c ≤ 57) ∨ (65 ≤ c ∧ c ≤ 90) ∨ (97 ≤ c ∧ c ≤ 122) ∨ c = 95
instance (c : Nat) : Decidable (wordN c) := by unfold wordN; infer_instance
def NameOk (s : ByteArray) : Prop := ∀ j, j < s.size → wordN (sb s j)
def GroupOk (cap : Int) (nm : ByteArray) (ns : List ByteArray) : Prop := cap = (ns.length : Int) + 1 ∧ cap ≤ 100 ∧ NameOk nm ∧ (nm = ByteArray.mk #[] ∨ nm ∉ ns)
def RangesOk (l : List (Int × Int)) : Prop :=
  (∀ i (h : i < l.length), 0 ≤ l[i].1 ∧ l[i].1 ≤ l[i].2 ∧ l[i].2 ≤ 1114111 ∧ ∀ j (hj : j < l.length), i = j + 1 → l[j].2 + 1 < l[i].1) ∧ ∀ h : l.length = 1, l[0].1 ≠ l[0].2
def Leafy (k : Int) : Prop := ¬ (k = 4 ∨ k = 5 ∨ k = 6 ∨ k = 7)
structure NodeP (x : Rx) : Prop where
  kind1 : 1 ≤ x.kind
  kind2 : x.kind ≤ 13
  zr : x.kind = 2 ∨ x.r = 0
  zg : x.kind = 3 ∨ x.ranges = []
  zm : x.kind = 6 ∨ (x.min = 0 ∧ x.max = 0 ∧ x.lazy = false)
  zc : x.kind = 7 ∨ (x.cap = 0 ∧ x.name = ByteArray.mk #[])
  lit : x.kind = 2 → 0 ≤ x.r ∧ x.r ≤ 1114111
  cls : x.kind = 3 → RangesOk x.ranges
  two : x.kind = 4 ∨ x.kind = 5 → 2 ≤ x.kids.length
  rep : x.kind = 6 → 0 ≤ x.min ∧ x.min ≤ 1000 ∧ (x.max = -1 ∨ (x.min ≤ x.max ∧ x.max ≤ 1000)) ∧ x.kids.length = 1
  grp : x.kind = 7 → x.kids.length = 1
  leaf : Leafy x.kind → x.kids = []
structure NodeF (x : Rx) : Prop where
  kind1 : 1 ≤ x.kind
  kind2 : x.kind ≤ 13
  zr : x.kind = 2 ∨ x.r = 0
  zg : x.kind = 3 ∨ (x.ranges.length : Int) = 0
  zm1 : x.kind = 6 ∨ x.min = 0
  zm2 : x.kind = 6 ∨ x.max = 0
  zl : x.kind = 6 ∨ x.lazy = false
  zc : x.kind = 7 ∨ x.cap = 0
  zn : x.kind = 7 ∨ x.name = ByteArray.mk #[]
  lit1 : x.kind = 2 → 0 ≤ x.r
  lit2 : x.kind = 2 → x.r ≤ 1114111
  cls : x.kind = 3 → RangesOk x.ranges
  two : x.kind = 4 ∨ x.kind = 5 → 2 ≤ (x.kids.length : Int)
  rep1 : x.kind = 6 → 0 ≤ x.min
  rep2 : x.kind = 6 → x.min ≤ 1000
  rep3 : x.kind = 6 → x.max = -1 ∨ (x.min ≤ x.max ∧ x.max ≤ 1000)
  rep4 : x.kind = 6 → (x.kids.length : Int) = 1
  grp : x.kind = 7 → (x.kids.length : Int) = 1
  leaf : x.kind = 4 ∨ x.kind = 5 ∨ x.kind = 6 ∨ x.kind = 7 ∨ (x.kids.length : Int) = 0
theorem nodeP_iff (x : Rx) : NodeP x ↔ NodeF x := by
  constructor
  · intro h
    refine ⟨h.kind1, h.kind2, h.zr, ?_, ?_, ?_, ?_, ?_, ?_, fun k => (h.lit k).1, fun k => (h.lit k).2, h.cls, fun k => by have := h.two k; omega, fun k => (h.rep k).1, fun k => (h.rep k).2.1, fun k => (h.rep k).2.2.1, fun k => by have := (h.rep k).2.2.2; omega, fun k => by have := h.grp k; omega, ?_⟩
    · rcases h.zg with h | h; exact .inl h; right; rw [h]; rfl
    · rcases h.zm with h | h; exact .inl h; exact .inr h.1
    · rcases h.zm with h | h; exact .inl h; exact .inr h.2.1
    · rcases h.zm with h | h; exact .inl h; exact .inr h.2.2
    · rcases h.zc with h | h; exact .inl h; exact .inr h.1
    · rcases h.zc with h | h; exact .inl h; exact .inr h.2
    · by_cases hk : Leafy x.kind
      · have := h.leaf hk; right; right; right; right; rw [this]; rfl
      · unfold Leafy at hk; omega
  · intro h
    refine ⟨h.kind1, h.kind2, h.zr, ?_, ?_, ?_, fun k => ⟨h.lit1 k, h.lit2 k⟩, h.cls, fun k => by have := h.two k; omega, fun k => ⟨h.rep1 k, h.rep2 k, h.rep3 k, by have := h.rep4 k; omega⟩, fun k => by have := h.grp k; omega, fun k => ?_⟩
    · rcases h.zg with h | h; exact .inl h; exact .inr (List.length_eq_zero_iff.1 (by omega))
    · by_cases hk : x.kind = 6
      · exact .inl hk
      · exact .inr ⟨h.zm1.resolve_left hk, h.zm2.resolve_left hk, h.zl.resolve_left hk⟩
    · by_cases hk : x.kind = 7
      · exact .inl hk
      · exact .inr ⟨h.zc.resolve_left hk, h.zn.resolve_left hk⟩
    · have := h.leaf
      unfold Leafy at k
      exact List.length_eq_zero_iff.1 (by omega)
/-- Show writes brackets about a kid of kind a in a node of kind k. -/
def Brk (a k : Int) : Prop := (k = 5 ∧ a = 5) ∨ (k = 4 ∧ (a = 5 ∨ a = 4 ∨ a = 1)) ∨ (k = 6 ∧ (a = 5 ∨ a = 4 ∨ a = 1 ∨ a = 6))
instance (a k : Int) : Decidable (Brk a k) := by unfold Brk; infer_instance
open Classical in
mutual
noncomputable def Rx.fine : Rx → Int → St → Option St
  | .mk k r rs mn mx lz cp nm ks, b, st =>
    if st.1 + 1 ≤ 8194 ∧ (if k = 7 then b + 1 else b) ≤ 250 ∧ NodeP (.mk k r rs mn mx lz cp nm ks) ∧ (k = 7 → GroupOk cp nm st.2) then
      fineKids ks k (if k = 7 then b + 1 else b) (st.1 + 1, if k = 7 then st.2 ++ [nm] else st.2)
    else none
noncomputable def fineKids : List Rx → Int → Int → St → Option St
  | [], _, _, st => some st
  | x :: xs, k, b, st => match x.fine (b + if Brk x.kind k then 1 else 0) st with
    | none => none
    | some st' => fineKids xs k b st'
end
open Classical in
theorem Rx.fine_eq (x : Rx) (b : Int) (st : St) : x.fine b st = if st.1 + 1 ≤ 8194 ∧ (if x.kind = 7 then b + 1 else b) ≤ 250 ∧ NodeP x ∧ (x.kind = 7 → GroupOk x.cap x.name st.2) then
      fineKids x.kids x.kind (if x.kind = 7 then b + 1 else b) (st.1 + 1, if x.kind = 7 then st.2 ++ [x.name] else st.2) else none := by
  cases x; rw [Rx.fine]; rfl
theorem fineKids_at {l : List Rx} {j : Nat} (hj : j < l.length) (k b : Int) (st : St) : fineKids (l.drop j) k b st = (match l[j].fine (b + if Brk l[j].kind k then 1 else 0) st with | none => none | some st' => fineKids (l.drop (j + 1)) k b st') := by
  rw [List.drop_eq_getElem_cons hj, fineKids]
theorem fineKids_end {l : List Rx} {j : Nat} (hj : ¬ j < l.length) (k b : Int) (st : St) : fineKids (l.drop j) k b st = some st := by
  rw [List.drop_eq_nil_of_le (by omega), fineKids]
theorem fine_yes {x : Rx} {b : Int} {st : St} (h : st.1 + 1 ≤ 8194 ∧ (if x.kind = 7 then b + 1 else b) ≤ 250 ∧ NodeP x ∧ (x.kind = 7 → GroupOk x.cap x.name st.2)) :
    x.fine b st = fineKids x.kids x.kind (if x.kind = 7 then b + 1 else b) (st.1 + 1, if x.kind = 7 then st.2 ++ [x.name] else st.2) := by rw [Rx.fine_eq, if_pos h]
theorem fine_no {x : Rx} {b : Int} {st : St} (h : ¬ (st.1 + 1 ≤ 8194 ∧ (if x.kind = 7 then b + 1 else b) ≤ 250 ∧ NodeP x ∧ (x.kind = 7 → GroupOk x.cap x.name st.2))) : x.fine b st = none := by rw [Rx.fine_eq, if_neg h]
/-- A tree is valid. -/
def Rx.Ok (x : Rx) : Prop := ∃ st, x.fine 0 (0, []) = some st

/-- A judge's notes: how many nodes, which names. -/
structure JAt (w : World) (T : TypeId) (jb : Nat) (st : St) (a : Option Addr) (c : Nat) (ob : Option Nat) : Prop where
  blk : w.heap[jb]? = some (.cells #[iv (st.1 : Nat), .slice a st.2.length c] T (0, 0))
  own : OwnS w 9 1 a st.2.length c (st.2.map sv) ob
  ne : ∀ g, ob = some g → g ≠ jb
theorem ap_ob {w : World} {o p p' : Option Nat} (h : Apart o p) (hl : Lt w o) (hp : p' = p ∨ ∃ g, p' = some g ∧ w.heap.size ≤ g) : Apart o p' := fun g h1 h2 => by
  rcases hp with rfl | ⟨g', h3, h4⟩
  · exact h g h1 h2
  · rw [h2] at h3; cases h3; have := hl g h1; omega
theorem ge_ob {w w1 : World} {p p' : Option Nat} (h : Ge w p) (hw : w.heap.size ≤ w1.heap.size) (hp : p' = p ∨ ∃ g, p' = some g ∧ w1.heap.size ≤ g) : Ge w p' := fun g hg => by
  rcases hp with rfl | ⟨g', h3, h4⟩
  · exact h g hg
  · rw [hg] at h3; cases h3; omega
end Go.Proofs.Ytgboffefbpligaa
