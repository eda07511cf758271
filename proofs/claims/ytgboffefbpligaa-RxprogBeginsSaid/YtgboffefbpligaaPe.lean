/- Which code a node has: plain. -/
import Derived.Test.YtgboffefbpligaaPd
namespace Go.Proofs.Ytgboffefbpligaa
open Go.W Go.RowKit
set_option linter.unusedVariables false
set_option linter.unusedSimpArgs false

theorem blk_eq (l : List In) (x : Rx) (a b : Nat) : Blk l x a b ↔
    (x.kind = 1 → b = a) ∧
    (x.kind = 2 → b = a + 1 ∧ l[a]? = some ⟨2, (a : Int) + 1, 0, 0, [(x.r, x.r)]⟩) ∧
    (x.kind = 3 → b = a + 1 ∧ l[a]? = some (if x.ranges = [] then ⟨11, 0, 0, 0, []⟩ else ⟨2, (a : Int) + 1, 0, 0, x.ranges⟩)) ∧
    (x.kind = 4 → Blks l x.kids a b) ∧
    (x.kind = 5 → BlkA l x.kids a b) ∧
    (x.kind = 6 → ∃ m, Rep (Blks l x.kids) x.min.toNat a m ∧ (x.max = -1 → ∃ m', l[m]? = some (In.sp x.lazy (m + 1) b) ∧ Blks l x.kids (m + 1) m' ∧ l[m']? = some ⟨10, (m : Int), 0, 0, []⟩ ∧ b = m' + 1) ∧
      (x.max ≠ -1 → Opt l x.lazy (Blks l x.kids) b (x.max - x.min).toNat m)) ∧
    (x.kind = 7 → ∃ m, l[a]? = some ⟨4, (a : Int) + 1, 0, 2 * x.cap, []⟩ ∧ Blks l x.kids (a + 1) m ∧ l[m]? = some ⟨4, (m : Int) + 1, 0, 2 * x.cap + 1, []⟩ ∧ b = m + 1) ∧
    (8 ≤ x.kind → b = a + 1 ∧ l[a]? = some (leafIn x.kind a)) := by
  cases x; rw [Blk]; rfl
theorem blks_snoc {l : List In} {x : Rx} {b m : Nat} (hb : Blk l x m b) : ∀ {ks : List Rx} {a : Nat}, Blks l ks a m → Blks l (ks ++ [x]) a b
  | [], a, h => by rw [Blks] at h; subst h; exact blks_one.2 hb
  | k :: ks, a, h => by
    rw [Blks] at h
    obtain ⟨m', h1, h2⟩ := h
    rw [List.cons_append, Blks]
    exact ⟨m', h1, blks_snoc hb h2⟩
def CatC (ks : List Rx) (a : Nat) (k : List In) : Prop := ∀ l, Has l a k → Blks l ks a (a + k.length)
theorem CatC.nil (a : Nat) : CatC [] a [] := fun l _ => by rw [Blks]; rfl
theorem CatC.snoc {ks : List Rx} {x : Rx} {a : Nat} {k kx : List In} (h : CatC ks a k) (hx : Codes x (a + k.length) kx) : CatC (ks ++ [x]) a (k ++ kx) := fun l hl => by
  rw [List.length_append, ← Nat.add_assoc]
  exact blks_snoc (hx l hl.right) (h l hl.left)
section
variable {x y : Rx} {a : Nat} {k kx : List In}
theorem codes_empty (h : x.kind = 1) : Codes x a [] := fun l hl => (blk_eq l x a _).2 ⟨fun _ => rfl, fun _ => by omega, fun _ => by omega, fun _ => by omega, fun _ => by omega, fun _ => by omega, fun _ => by omega, fun _ => by omega⟩
theorem codes_lit (h : x.kind = 2) : Codes x a [⟨2, (a : Int) + 1, 0, 0, [(x.r, x.r)]⟩] := fun l hl => (blk_eq l x a _).2 ⟨fun _ => by omega, fun _ => ⟨rfl, hl.one⟩, fun _ => by omega, fun _ => by omega, fun _ => by omega, fun _ => by omega, fun _ => by omega, fun _ => by omega⟩
theorem codes_fail (h : x.kind = 3) (hr : x.ranges = []) : Codes x a [⟨11, 0, 0, 0, []⟩] := fun l hl => (blk_eq l x a _).2 ⟨fun _ => by omega, fun _ => by omega, fun _ => ⟨rfl, by rw [if_pos hr]; exact hl.one⟩, fun _ => by omega, fun _ => by omega, fun _ => by omega, fun _ => by omega, fun _ => by omega⟩
theorem codes_class (h : x.kind = 3) (hr : x.ranges ≠ []) : Codes x a [⟨2, (a : Int) + 1, 0, 0, x.ranges⟩] := fun l hl => (blk_eq l x a _).2 ⟨fun _ => by omega, fun _ => by omega, fun _ => ⟨rfl, by rw [if_neg hr]; exact hl.one⟩, fun _ => by omega, fun _ => by omega, fun _ => by omega, fun _ => by omega, fun _ => by omega⟩
theorem codes_cat (h : x.kind = 4) (hk : CatC x.kids a k) : Codes x a k := fun l hl => (blk_eq l x a _).2 ⟨fun _ => by omega, fun _ => by omega, fun _ => by omega, fun _ => hk l hl, fun _ => by omega, fun _ => by omega, fun _ => by omega, fun _ => by omega⟩
theorem codes_alt (h : x.kind = 5) (hk : ∀ l, Has l a k → BlkA l x.kids a (a + k.length)) : Codes x a k := fun l hl => (blk_eq l x a _).2 ⟨fun _ => by omega, fun _ => by omega, fun _ => by omega, fun _ => by omega, fun _ => hk l hl, fun _ => by omega, fun _ => by omega, fun _ => by omega⟩
theorem codes_leaf (h : 8 ≤ x.kind) : Codes x a [leafIn x.kind a] := fun l hl => (blk_eq l x a _).2 ⟨fun _ => by omega, fun _ => by omega, fun _ => by omega, fun _ => by omega, fun _ => by omega, fun _ => by omega, fun _ => by omega, fun _ => ⟨rfl, hl.one⟩⟩
theorem codes_grp (h : x.kind = 7) (hk : x.kids = [y]) (hc : Codes y (a + 1) k) : Codes x a ([⟨4, (a : Int) + 1, 0, 2 * x.cap, []⟩] ++ (k ++ [⟨4, ((a + 1 + k.length : Nat) : Int) + 1, 0, 2 * x.cap + 1, []⟩])) := fun l hl =>
  (blk_eq l x a _).2 ⟨fun _ => by omega, fun _ => by omega, fun _ => by omega, fun _ => by omega, fun _ => by omega, fun _ => by omega, fun _ => ⟨a + 1 + k.length, hl.left.one, by rw [hk]; exact blks_one.2 (hc l hl.right.left), hl.right.right.one, by simp only [List.length_append, List.length_cons, List.length_nil]; omega⟩, fun _ => by omega⟩
theorem codes_loop (h : x.kind = 6) (hk : x.kids = [y]) (hm : x.max = -1) (hr : RepC [y] x.min.toNat a k) (hc : Codes y (a + k.length + 1) kx) :
    Codes x a (k ++ ([In.sp x.lazy (a + k.length + 1) (a + k.length + 1 + kx.length + 1)] ++ (kx ++ [⟨10, ((a + k.length : Nat) : Int), 0, 0, []⟩]))) := fun l hl => by
  have hlen : a + (k ++ ([In.sp x.lazy (a + k.length + 1) (a + k.length + 1 + kx.length + 1)] ++ (kx ++ [(⟨10, ((a + k.length : Nat) : Int), 0, 0, []⟩ : In)]))).length = a + k.length + 1 + kx.length + 1 := by simp only [List.length_append, List.length_cons, List.length_nil]; omega
  rw [hlen]
  refine (blk_eq l x a _).2 ⟨fun _ => by omega, fun _ => by omega, fun _ => by omega, fun _ => by omega, fun _ => by omega, fun _ => ⟨a + k.length, by rw [hk]; exact hr l hl.left, fun _ => ⟨a + k.length + 1 + kx.length, hl.right.left.one, by rw [hk]; exact blks_one.2 (hc l hl.right.right.left), hl.right.right.right.one, rfl⟩, fun h => (h hm).elim⟩, fun _ => by omega, fun _ => by omega⟩
theorem codes_opt {js : List Nat} {kp : List In} {r : Nat} (h : x.kind = 6) (hk : x.kids = [y]) (hm : x.max ≠ -1) (hr : RepC [y] x.min.toNat a k) (hrn : r = (x.max - x.min).toNat) (ho : OptPre x.lazy y r (a + k.length) kx js) (hkp : kp.length = kx.length)
    (hp : ∀ l, Has l (a + k.length) kp → Pat l (a + k.length) kx js (turnTo x.lazy (a + k.length + kx.length))) : Codes x a (k ++ kp) := fun l hl => by
  subst hrn
  rw [List.length_append, hkp, ← Nat.add_assoc]
  refine (blk_eq l x a _).2 ⟨fun _ => by omega, fun _ => by omega, fun _ => by omega, fun _ => by omega, fun _ => by omega, fun _ => ⟨a + k.length, by rw [hk]; exact hr l hl.left, fun h => (hm h).elim, fun _ => ?_⟩, fun _ => by omega, fun _ => by omega⟩
  rw [hk]
  exact ho.blk l _ (hp l hl.right) 0 rfl
end
end Go.Proofs.Ytgboffefbpligaa
