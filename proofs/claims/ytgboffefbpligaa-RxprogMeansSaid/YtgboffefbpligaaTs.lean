/- The reference's sheet: lay. -/
import Derived.Test.YtgboffefbpligaaTr
import Derived.Test.YtgboffefbpligaaTl
namespace Go.Proofs.Ytgboffefbpligaa
open Go.Proofs
open Go.W Go.RowKit
attribute [local irreducible] Decidable.decide
set_option linter.unusedSimpArgs false
set_option linter.unusedVariables false
theorem Try.agg62 : aggB Try.prog 62 = some false := by kernel_rfl
theorem Try.app62_62 : appB Try.prog 62 62 = some (89, 11, 160) := by kernel_rfl
theorem Try.build89 : Build Try.prog 89 #[(0, 9), (9, 1), (10, 1)] #[.int .i64 0, .int .i32 0, .slice none 0 0, .int .i64 0, .int .i64 0, .bool false, .int .i64 0, .string ByteArray.empty, .slice none 0 0, .slice none 0 0, .slice none 0 0] := ⟨_, .agg #[.int .i64 0, .int .i32 0, .slice none 0 0, .int .i64 0, .int .i64 0, .bool false, .int .i64 0, .string ByteArray.empty, .slice none 0 0, .slice none 0 0, .slice none 0 0], Try.underlying89, by kernel_rfl, rfl, fun w => by kernel_rfl⟩
theorem Try.elem62 : elemB Try.prog 62 = some 11 := by kernel_rfl
theorem Try.fld64_0 : fieldB Try.prog 64 0 = some 0 := by kernel_rfl
theorem Try.fld64_1 : fieldB Try.prog 64 1 = some 1 := by kernel_rfl
theorem Try.fld89_1 : fieldB Try.prog 89 1 = some 9 := by kernel_rfl
theorem Try.goes24 : Goes Try.prog 24 := ⟨_, Try.func24, by kernel_rfl, by kernel_rfl⟩
theorem Try.make87 : makeB Try.prog 87 = some (65, 1, 24, #[.slice none 0 0]) := by kernel_rfl
theorem Try.size46 : sizeB Try.prog 46 = some 1 := by kernel_rfl
theorem Try.size62 : sizeB Try.prog 62 = some 1 := by kernel_rfl
theorem Try.slice62 : sliceB Try.prog 62 = some (89, 11) := by kernel_rfl


mutual
def Rx.cnt : Rx → Nat
  | .mk k r rs mn mx lz cp nm ks => cnts ks + 1
def cnts : List Rx → Nat
  | [] => 0
  | x :: xs => x.cnt + cnts xs
end
theorem Rx.cnt_eq (x : Rx) : x.cnt = cnts x.kids + 1 := by cases x; rw [Rx.cnt]; rfl
theorem cnts_len (l : List Rx) : l.length ≤ cnts l := by
  induction l with
  | nil => exact Nat.zero_le _
  | cons x xs ih => rw [List.length_cons, cnts, Rx.cnt_eq]; omega
theorem cnts_take {l : List Rx} {k : Nat} (h : k < l.length) : cnts (l.take (k + 1)) = cnts (l.take k) + l[k].cnt := by
  induction l generalizing k with
  | nil => simp at h
  | cons x xs ih =>
    cases k with
    | zero => simp [cnts]
    | succ k =>
      rw [List.take_succ_cons, List.take_succ_cons, cnts, cnts, ih (by simpa using h)]
      simp only [List.getElem_cons_succ]; omega
theorem cnts_le {l : List Rx} {k : Nat} (h : k < l.length) : cnts (l.take k) + l[k].cnt ≤ cnts l := by
  rw [← cnts_take h]
  have : ∀ (l : List Rx) (k : Nat), cnts (l.take k) ≤ cnts l := by
    intro l
    induction l with
    | nil => intro k; simp
    | cons x xs ih =>
      intro k
      cases k with
      | zero => rw [List.take_zero, cnts]; exact Nat.zero_le _
      | succ k => rw [List.take_succ_cons, cnts, cnts]; have := ih k; omega
  exact this l (k + 1)
structure Nd where
  x : Rx
  vx : List Value
  ks : List Nat
  vk : Value
  sb : Nat
def Nd.cells (N : Nat) (nd : Nd) : List Value := nd.vx ++ [nd.vk, .slice (some ⟨nd.sb, 0, none⟩) (N + 1) (N + 1)]
abbrev SB (nds : List Nd) : List Nat := nds.map Nd.sb
def nflat (N : Nat) (l : List Nd) : List Value := (l.map (Nd.cells N)).flatten
theorem nflat_append (N : Nat) (a b : List Nd) : nflat N (a ++ b) = nflat N a ++ nflat N b := by simp [nflat]
def RNatV : Rel Nat := fun _ _ vs n => vs = [iv (n : Nat)]
theorem RNatV.pers : RNatV.Pers := fun _ _ _ _ _ _ h => h
theorem RNatV.fresh : RNatV.Fresh := fun _ _ _ _ _ _ h => h
structure NdOk (X : List Nat) (w : World) (nd : Nd) : Prop where
  rx : ∃ d, RRx d X w nd.vx nd.x
  ks : RSl 1 RNatV X w nd.vk nd.ks
  kl : nd.ks.length ≤ 1048576
theorem rslStep {α : Type} {sz : Nat} {R : Rel α} (hsz : 0 < sz) (hp : R.Pers) (hf : R.Fresh) (hm : ∀ X Y w vs d, (∀ y, y ∈ Y → y ∈ X) → R X w vs d → R Y w vs d) {X Y : List Nat} {w w' : World} {v : Value} {l : List α} (h : RSl sz R X w v l) (he : Evo X w w') (hy : ∀ y, y ∈ Y → y ∈ X ∨ w.heap.size ≤ y) : RSl sz R Y w' v l := by
  have h1 : RSl sz R (Y ++ X) w v l := RSl.fresh hsz hf (fun y hm => by rcases List.mem_append.1 hm with h | h; exact hy y h; exact .inl h) h
  have h2 := RSl.evo hp (he.mono (fun b hb => by simp [hb])) h1
  obtain ⟨a, c, hv, hc, h3⟩ := h2
  exact ⟨a, c, hv, hc, fun k hk => by obtain ⟨b, o, vs, ha, hb, hl, hcs, hr⟩ := h3 k hk; exact ⟨b, o, vs, ha, fun hm => hb (by simp [hm]), hl, hcs, hm _ _ _ _ _ (fun y hy => by simp [hy]) hr⟩⟩
theorem RRx.move {n : Nat} {X Y : List Nat} {w w' : World} {vs : List Value} {x : Rx} (h : RRx n X w vs x) (he : Evo X w w') (hy : ∀ y, y ∈ Y → y ∈ X ∨ w.heap.size ≤ y) : RRx n Y w' vs x := by
  have h1 : RRx n (Y ++ X) w vs x := RRx.fresh n X (Y ++ X) w vs x (fun y hy' => by rcases List.mem_append.1 hy' with h | h; exact hy y h; exact .inl h) h
  have h2 := RRx.pers n _ _ _ _ _ (he.mono (fun b hb => by simp [hb])) h1
  exact RRx.fresh n (Y ++ X) Y w' vs x (fun y hy' => .inl (by simp [hy'])) h2
theorem NdOk.step {X Y : List Nat} {w w' : World} {nd : Nd} (h : NdOk X w nd) (he : Evo X w w') (hy : ∀ y, y ∈ Y → y ∈ X ∨ w.heap.size ≤ y) : NdOk Y w' nd :=
  ⟨let ⟨d, hd⟩ := h.rx; ⟨d, hd.move he hy⟩, rslStep (by decide) RNatV.pers RNatV.fresh (fun _ _ _ _ _ _ h => h) h.ks he hy, h.kl⟩
/-- The sheet: its block, its nodes, which stay clear of Z, with nothing noted yet. -/
structure ShAt (w : World) (hb N : Nat) (ra : Option Addr) (rc : Nat) (nds : List Nd) (a : Option Addr) (c : Nat) (ob : Option Nat) (Z : List Nat) : Prop where
  blk : w.heap[hb]? = some (.cells #[.slice a nds.length c, .slice ra N rc] 64 (0, 0))
  own : OwnS w 89 11 a nds.length c (nflat N nds) ob
  ne : ∀ g, ob = some g → g ≠ hb
  nd : ∀ nd, nd ∈ nds → NdOk (hb :: (ob.toList ++ (SB nds ++ Z))) w nd
  nine : ∀ nd, nd ∈ nds → nd.vx.length = 9
  seen : ∀ nd, nd ∈ nds → OwnS w 65 1 (some ⟨nd.sb, 0, none⟩) (N + 1) (N + 1) (zeros #[.slice none 0 0] (N + 1)) (some nd.sb) ∧ nd.sb ∉ hb :: (ob.toList ++ Z)
  dist : (nds.map Nd.sb).Nodup
theorem ShAt.lt {w : World} {hb N : Nat} {ra : Option Addr} {rc : Nat} {nds : List Nd} {a : Option Addr} {c : Nat} {ob : Option Nat} {Z : List Nat} (h : ShAt w hb N ra rc nds a c ob Z) : ∀ y, y ∈ hb :: ob.toList → y < w.heap.size := fun y hy => by
  rcases List.mem_cons.1 hy with e | e
  · rw [e]; exact blk_lt h.blk
  · have : ob = some y := by simpa using e
    subst this; exact h.own.lt
theorem memZ {hb : Nat} {o Z : List Nat} {b : Nat} (h : b ∈ Z) : b ∈ hb :: (o ++ Z) := List.mem_cons_of_mem _ (List.mem_append_right _ h)
theorem consZ {w : World} {hb : Nat} {o Z Z' : List Nat} (hZ : ∀ z, z ∈ Z' → z ∈ Z ∨ w.heap.size ≤ z) : ∀ y, y ∈ hb :: (o ++ Z') → y ∈ hb :: (o ++ Z) ∨ w.heap.size ≤ y := fun y hy => by
  rw [← List.cons_append] at hy
  rcases List.mem_append.1 hy with e | e
  · left; rw [← List.cons_append]; exact List.mem_append_left _ e
  · exact (hZ y e).imp memZ id
theorem sbZ {w : World} {S Z Z' : List Nat} (hZ : ∀ z, z ∈ Z' → z ∈ Z ∨ w.heap.size ≤ z) : ∀ z, z ∈ S ++ Z' → z ∈ S ++ Z ∨ w.heap.size ≤ z := fun z hz => by
  rcases List.mem_append.1 hz with e | e
  · exact .inl (List.mem_append_left _ e)
  · exact (hZ z e).imp (fun h => List.mem_append_right _ h) (fun h => h)
theorem ShAt.evo {w w' : World} {hb N : Nat} {ra : Option Addr} {rc : Nat} {nds : List Nd} {a : Option Addr} {c : Nat} {ob : Option Nat} {Y Z Z' : List Nat} (h : ShAt w hb N ra rc nds a c ob Z) (he : Evo Y w w') (h1 : hb ∉ Y) (h2 : ∀ g, ob = some g → g ∉ Y) (hY : ∀ y, y ∈ Y → y ∈ Z) (hZ : ∀ z, z ∈ Z' → z ∈ Z ∨ w.heap.size ≤ z) : ShAt w' hb N ra rc nds a c ob Z' :=
  ⟨he.blk h.blk h1, h.own.evo he h2, h.ne, fun nd hn => (h.nd nd hn).step (he.mono (fun b hb => memZ (List.mem_append_right _ (hY b hb)))) (consZ (sbZ hZ)), h.nine, fun nd hn => ⟨(h.seen nd hn).1.evo he (fun g hg hm => by cases hg; exact (h.seen nd hn).2 (memZ (hY _ hm))), fun hm => by
    rcases consZ hZ _ hm with e | e
    · exact (h.seen nd hn).2 e
    · have := (h.seen nd hn).1.lt; omega⟩, h.dist⟩
theorem ShAt.evo0 {w w' : World} {hb N : Nat} {ra : Option Addr} {rc : Nat} {nds : List Nd} {a : Option Addr} {c : Nat} {ob : Option Nat} {Z : List Nat} (h : ShAt w hb N ra rc nds a c ob Z) (he : Evo [] w w') : ShAt w' hb N ra rc nds a c ob Z := h.evo he (by simp) (by simp) (by simp) (fun z hz => .inl hz)
def ShTo (w w' : World) (hb N : Nat) (ra : Option Addr) (rc : Nat) (ob : Option Nat) (nds : List Nd) (Z : List Nat) : Prop := ∃ a c ob', ShAt w' hb N ra rc nds a c ob' Z ∧ (ob' = ob ∨ ∃ g, ob' = some g ∧ w.heap.size ≤ g)
/-- The nodes of a tree, all from lo on. -/
inductive Lays (nds : List Nd) (lo : Nat) : Nat → Rx → Prop
  | mk {id : Nat} {nd : Nd} : lo ≤ id → nds[id]? = some nd → nd.ks.length = nd.x.kids.length → (∀ j (h : j < nd.ks.length) (h' : j < nd.x.kids.length), Lays nds lo nd.ks[j] nd.x.kids[j]) → Lays nds lo id nd.x
theorem Lays.mono {nds nds' : List Nd} {lo lo' id : Nat} {x : Rx} (h : Lays nds lo id x) (h1 : ∀ i, lo ≤ i → ∀ nd, nds[i]? = some nd → nds'[i]? = some nd) (h2 : lo' ≤ lo) : Lays nds' lo' id x := by
  induction h with
  | mk a b c d ih => exact .mk (by omega) (h1 _ a _ b) c (fun j h h' => ih j h h')
structure LyG where
  j : Nat
  more : List Nd
  pa : Option Addr
  pc : Nat
  po : Option Nat
  ids : List Nat
  ia : Option Addr
  ic : Nat
  io : Option Nat
structure LyI (w wr : World) (hb N : Nat) (ra : Option Addr) (rc : Nat) (nds : List Nd) (r0 : Nd) (ks : List Rx) (ob : Option Nat) (Z : List Nat) (b3 : Nat) (cs : Array Value) (x : LyG) : Prop where
  j : x.j ≤ ks.length
  sh : ShAt wr hb N ra rc ((nds ++ [r0]) ++ x.more) x.pa x.pc x.po (x.io.toList ++ Z)
  po : x.po = ob ∨ ∃ g, x.po = some g ∧ w.heap.size ≤ g
  len : x.more.length = cnts (ks.take x.j)
  il : x.ids.length = x.j
  lays : ∀ i (h : i < x.ids.length) (h' : i < ks.length), Lays ((nds ++ [r0]) ++ x.more) (nds.length + 1) x.ids[i] ks[i]
  io : OwnS wr 3 1 x.ia x.j x.ic (ivs x.ids) x.io
  ap1 : Apart (some hb) x.io
  ap2 : Apart x.po x.io
  ge : Ge w x.io
  bx : wr.heap[b3]? = some (.cells cs 25 (0, 0))
  a1 : Apart (some b3) (some hb)
  a2 : Apart (some b3) x.po
  a3 : Apart (some b3) x.io
  fr : ∀ nd, nd ∈ x.more → w.heap.size ≤ nd.sb
theorem sh_new {w w' : World} {hb N d : Nat} {ra a2 : Option Addr} {rc c2 : Nat} {nds : List Nd} {a : Option Addr} {c : Nat} {ob ob2 : Option Nat} {Z : List Nat} {r0 : Nd} (hS : ShAt w hb N ra rc nds a c ob Z) (hE : Evo (hb :: ob.toList) w w')
    (hB : w'.heap[hb]? = some (.cells #[.slice a2 (nds.length + 1) c2, .slice ra N rc] 64 (0, 0))) (hO : OwnS w' 89 11 a2 (nds.length + 1) c2 (nflat N nds ++ r0.cells N) ob2) (hob : ob2 = ob ∨ ∃ g, ob2 = some g ∧ w.heap.size ≤ g)
    (hx : RRx d (hb :: (ob.toList ++ (SB nds ++ Z))) w r0.vx r0.x) (h9 : r0.vx.length = 9) (hks : r0.ks = []) (hvk : r0.vk = .slice none 0 0) (hs : OwnS w' 65 1 (some ⟨r0.sb, 0, none⟩) (N + 1) (N + 1) (zeros #[.slice none 0 0] (N + 1)) (some r0.sb))
    (hge : w.heap.size ≤ r0.sb) (h1 : r0.sb ≠ hb) (h2 : ∀ g, ob2 = some g → g ≠ r0.sb) (hZ : ∀ z, z ∈ Z → z < w.heap.size) : ShAt w' hb N ra rc (nds ++ [r0]) a2 c2 ob2 Z := by
  have hm : ∀ b, b ∈ hb :: ob.toList → b ∈ hb :: (ob.toList ++ Z) := fun b hb => by rw [← List.cons_append]; exact List.mem_append_left _ hb
  have hm2 : ∀ b, b ∈ hb :: ob.toList → b ∈ hb :: (ob.toList ++ (SB nds ++ Z)) := fun b hb => by rw [← List.cons_append]; exact List.mem_append_left _ hb
  have hE' := hE.mono hm2
  have hmo : ∀ y, y ∈ hb :: (ob2.toList ++ (SB (nds ++ [r0]) ++ Z)) → y ∈ hb :: (ob.toList ++ (SB nds ++ Z)) ∨ w.heap.size ≤ y := fun y hy => by
    rw [← List.cons_append] at hy
    rcases List.mem_append.1 hy with e | e
    · exact (mem_ob hob y e).imp (hm2 y) (fun h => h)
    · rcases List.mem_append.1 e with e | e
      · simp only [SB, List.map_append, List.map_cons, List.map_nil] at e
        rcases List.mem_append.1 e with e | e
        · exact .inl (memZ (List.mem_append_left _ e))
        · rw [List.mem_singleton.1 e]; exact .inr hge
      · exact .inl (memZ (List.mem_append_right _ e))
  refine ⟨by rw [List.length_append]; exact hB, by rw [List.length_append, nflat_append]; simpa [nflat] using hO, own_new hS.ne (blk_lt hS.blk) hob, fun nd hn => ?_, fun nd hn => ?_, fun nd hn => ?_, ?_⟩
  · rcases List.mem_append.1 hn with hn | hn
    · exact (hS.nd nd hn).step hE' hmo
    · rw [List.mem_singleton] at hn; subst hn
      exact ⟨⟨d, hx.move hE' hmo⟩, by rw [hks, hvk]; exact rnil0, by rw [hks]; exact Nat.zero_le _⟩
  · rcases List.mem_append.1 hn with hn | hn
    · exact hS.nine nd hn
    · rw [List.mem_singleton] at hn; subst hn; exact h9
  · rcases List.mem_append.1 hn with hn | hn
    · obtain ⟨k1, k2⟩ := hS.seen nd hn
      refine ⟨k1.evo hE (fun g hg hm' => by cases hg; exact k2 (hm _ hm')), fun hm' => ?_⟩
      rcases mem_obZ hob _ hm' with e | e
      · exact k2 e
      · have := k1.lt; omega
    · rw [List.mem_singleton] at hn; subst hn
      refine ⟨hs, fun hm' => ?_⟩
      rcases List.mem_cons.1 hm' with e | e
      · exact h1 e
      · rcases List.mem_append.1 e with e | e
        · exact h2 _ (by simpa using e) rfl
        · have := hZ _ e; omega
  · rw [List.map_append, List.nodup_append]
    refine ⟨hS.dist, by simp, fun x hx y hy e => ?_⟩
    subst e
    obtain ⟨nd, hn, rfl⟩ := List.mem_map.1 hx
    have h3 := (hS.seen nd hn).1.lt
    simp at hy
    omega
theorem mod_at {A B : List Nd} {x : Nd} {f : Nd → Nd} : ((A ++ [x]) ++ B).modify A.length f = (A ++ [f x]) ++ B := by
  induction A with
  | nil => simp [List.modify]
  | cons a A ih => rw [List.cons_append, List.cons_append, List.length_cons, modify_cons_succ, ih]; rfl
theorem sh_set {w w' : World} {hb N k : Nat} {ra : Option Addr} {rc : Nat} {nds : List Nd} {a : Option Addr} {c : Nat} {ob : Option Nat} {Z : List Nat} {vk : Value} {ids : List Nat} (hS : ShAt w hb N ra rc nds a c ob Z) (hk : k < nds.length) (hE : Evo ob.toList w w')
    (hO : OwnS w' 89 11 a nds.length c ((nflat N nds).set (k * 11 + 9) vk) ob) (hv : RSl 1 RNatV (hb :: (ob.toList ++ (SB nds ++ Z))) w' vk ids) (hi : ids.length ≤ 1048576) :
    ShAt w' hb N ra rc (nds.modify k (fun nd => ⟨nd.x, nd.vx, ids, vk, nd.sb⟩)) a c ob Z := by
  have hm : ∀ b, b ∈ ob.toList → b ∈ hb :: (ob.toList ++ Z) := fun b hb => List.mem_cons_of_mem _ (List.mem_append_left _ hb)
  have hm2 : ∀ b, b ∈ ob.toList → b ∈ hb :: (ob.toList ++ (SB nds ++ Z)) := fun b hb => List.mem_cons_of_mem _ (List.mem_append_left _ hb)
  have hsb : SB (nds.modify k (fun nd => (⟨nd.x, nd.vx, ids, vk, nd.sb⟩ : Nd))) = SB nds := by
    apply List.ext_getElem?
    intro i
    simp only [SB]
    rw [List.getElem?_map, List.getElem?_modify, List.getElem?_map]
    cases nds[i]? with
    | none => rfl
    | some v => by_cases e : k = i <;> simp [e]
  have hget : ∀ nd, nd ∈ nds.modify k (fun nd => ⟨nd.x, nd.vx, ids, vk, nd.sb⟩) → ∃ nd0, nd0 ∈ nds ∧ nd.x = nd0.x ∧ nd.vx = nd0.vx ∧ nd.sb = nd0.sb ∧ ((nd.ks = nd0.ks ∧ nd.vk = nd0.vk) ∨ (nd.ks = ids ∧ nd.vk = vk)) := fun nd hn => by
    obtain ⟨i, hi, rfl⟩ := List.getElem_of_mem hn
    have hi' : i < nds.length := by simpa using hi
    refine ⟨nds[i], List.getElem_mem hi', ?_⟩
    rw [List.getElem_modify]
    split
    · exact ⟨rfl, rfl, rfl, .inr ⟨rfl, rfl⟩⟩
    · exact ⟨rfl, rfl, rfl, .inl ⟨rfl, rfl⟩⟩
  refine ⟨by rw [List.length_modify]; exact hE.blk hS.blk (fun hm => hS.ne hb (by simpa using hm) rfl), ?_, hS.ne, fun nd hn => ?_, fun nd hn => ?_, fun nd hn => ?_, ?_⟩
  · rw [List.length_modify]
    have hl : ∀ r, r ∈ nds.map (Nd.cells N) → r.length = 11 := fun r hr => by
      obtain ⟨nd, hn, rfl⟩ := List.mem_map.1 hr
      unfold Nd.cells; rw [List.length_append, hS.nine nd hn]; rfl
    have e := flatten_set hl (k := k) (j := 9) (by simpa using hk) (by omega) vk
    unfold nflat at hO ⊢
    rw [e] at hO
    have e2 : (nds.modify k (fun nd => (⟨nd.x, nd.vx, ids, vk, nd.sb⟩ : Nd))).map (Nd.cells N) = (nds.map (Nd.cells N)).set k ((nds.map (Nd.cells N))[k]'(by simpa using hk) |>.set 9 vk) := by
      apply List.ext_getElem?
      intro i
      rw [List.getElem?_map, List.getElem?_modify, List.getElem?_set]
      by_cases e : k = i
      · subst e
        rw [if_pos rfl, if_pos (by simpa using hk), List.getElem?_eq_getElem hk]
        simp only [Option.map_some, if_true, List.getElem_map]
        congr 1
        unfold Nd.cells
        rw [List.set_append_right _ _ (by rw [hS.nine _ (List.getElem_mem hk)]; omega), hS.nine _ (List.getElem_mem hk)]
        rfl
      · rw [if_neg e, List.getElem?_map]
        cases nds[i]? with
        | none => rfl
        | some v => simp [e]
    rw [e2]; exact hO
  · obtain ⟨nd0, h0, h1, h2, h3, h4⟩ := hget nd hn
    have hs := (hS.nd nd0 h0).step (hE.mono hm2) (fun y hy => .inl hy)
    rw [hsb]
    refine ⟨by rw [h1, h2]; exact hs.rx, ?_, ?_⟩
    · rcases h4 with ⟨h4, h5⟩ | ⟨h4, h5⟩ <;> rw [h4, h5]
      · exact hs.ks
      · exact hv
    · rcases h4 with ⟨h4, h5⟩ | ⟨h4, h5⟩ <;> rw [h4]
      · exact hs.kl
      · exact hi
  · obtain ⟨nd0, h0, h1, h2, h3, h4⟩ := hget nd hn
    rw [h2]; exact hS.nine nd0 h0
  · obtain ⟨nd0, h0, h1, h2, h3, h4⟩ := hget nd hn
    obtain ⟨k1, k2⟩ := hS.seen nd0 h0
    rw [h3]
    exact ⟨k1.evo hE (fun g hg hm' => by cases hg; exact k2 (hm _ hm')), k2⟩
  · have : (nds.modify k (fun nd => (⟨nd.x, nd.vx, ids, vk, nd.sb⟩ : Nd))).map Nd.sb = nds.map Nd.sb := by
      apply List.ext_getElem?
      intro i
      rw [List.getElem?_map, List.getElem?_modify, List.getElem?_map]
      cases nds[i]? with
      | none => rfl
      | some v => by_cases e : k = i <;> simp [e]
    rw [this]; exact hS.dist
theorem nd_len {N : Nat} {nd : Nd} (h : nd.vx.length = 9) : (nd.cells N).length = 11 := by unfold Nd.cells; rw [List.length_append, h]; rfl


theorem ShAt.cast {w : World} {hb N : Nat} {ra : Option Addr} {rc : Nat} {nds nds' : List Nd} {a : Option Addr} {c : Nat} {ob : Option Nat} {Z : List Nat} (h : ShAt w hb N ra rc nds a c ob Z) (e : nds = nds') : ShAt w hb N ra rc nds' a c ob Z := e ▸ h
theorem ids_apart {w : World} {hb : Nat} {po io : Option Nat} {Z : List Nat} (h1 : Apart (some hb) io) (h2 : Apart po io) (hg : Ge w io) (hZ : ∀ z, z ∈ Z → z < w.heap.size) : ∀ g, io = some g → g ∉ hb :: (po.toList ++ Z) := fun g hgo hm => by
  rcases List.mem_cons.1 hm with e | e
  · exact h1 g (by rw [e]) hgo
  · rcases List.mem_append.1 e with e | e
    · exact h2 g (by simpa using e) hgo
    · have h3 := hg g hgo
      have h4 := hZ g e
      omega
theorem ids_sb {w : World} {hb N : Nat} {ra : Option Addr} {rc : Nat} {nds : List Nd} {a : Option Addr} {c : Nat} {ob io : Option Nat} {Z : List Nat} (h : ∀ g, io = some g → g ∉ hb :: (ob.toList ++ Z)) (hS : ShAt w hb N ra rc nds a c ob (io.toList ++ Z)) : ∀ g, io = some g → g ∉ hb :: (ob.toList ++ (SB nds ++ Z)) := fun g hg hm => by
  rcases List.mem_cons.1 hm with e | e
  · exact h g hg (by rw [e]; exact List.mem_cons_self ..)
  · rcases List.mem_append.1 e with e | e
    · exact h g hg (List.mem_cons_of_mem _ (List.mem_append_left _ e))
    · rcases List.mem_append.1 e with e | e
      · obtain ⟨nd, hn, rfl⟩ := List.mem_map.1 e
        exact (hS.seen nd hn).2 (memZ (List.mem_append_left _ (by simp [hg])))
      · exact h g hg (memZ e)
theorem ids_rsl {w : World} {X : List Nat} {ia : Option Addr} {n ic : Nat} {ids : List Nat} {io : Option Nat} (h : OwnS w 3 1 ia n ic (ivs ids) io) (hx : ∀ g, io = some g → g ∉ X) (hl : ids.length = n) : RSl 1 RNatV X w (.slice ia n ic) ids := by
  have e : (ids.map fun p => [iv (p : Nat)]).flatten = ivs ids := by
    clear h hx hl
    induction ids with
    | nil => rfl
    | cons x xs ih => simp [ivs] at ih ⊢; exact ih
  rw [← e] at h
  exact RSl.ofOwn h ⟨by simp, fun k h1 h2 => by simp only [List.getElem_map]; exact ⟨rfl, rfl⟩⟩ hl hx
theorem lays_snoc {A more more2 : List Nd} {lo j : Nat} {ids : List Nat} {ks : List Rx} (hil : ids.length = j) (hj : j < ks.length) (h : ∀ i (h : i < ids.length) (h' : i < ks.length), Lays (A ++ more) lo ids[i] ks[i]) {m lo' : Nat} (h2 : Lays (A ++ (more ++ more2)) lo' m ks[j]) (hlo : lo ≤ lo') :
    ∀ i (h : i < (ids ++ [m]).length) (h' : i < ks.length), Lays (A ++ (more ++ more2)) lo (ids ++ [m])[i] ks[i] := fun i hi hi' => by
  by_cases e : i < ids.length
  · rw [List.getElem_append_left e]
    refine (h i e hi').mono (fun k _ nd hn => ?_) (Nat.le_refl _)
    rw [← List.append_assoc, List.getElem?_append_left (List.getElem?_eq_some_iff.1 hn).1]; exact hn
  · have : i = j := by simp only [List.length_append, List.length_cons, List.length_nil] at hi; omega
    subst this
    rw [List.getElem_append_right (by omega)]
    simp only [hil, Nat.sub_self, List.getElem_cons_zero]
    exact h2.mono (fun k _ nd hn => hn) hlo
theorem mem_left {hb b : Nat} {o Z : List Nat} (h : b ∈ hb :: o) : b ∈ hb :: (o ++ Z) := by rw [← List.cons_append]; exact List.mem_append_left _ h
theorem mem_ioZ {w : World} {hb : Nat} {ob po io : Option Nat} {Z : List Nat} {nds more : List Nd} {r0 : Nd} (hq : po = ob ∨ ∃ g, po = some g ∧ w.heap.size ≤ g) (hg : Ge w io) (hr : w.heap.size ≤ r0.sb) (hf : ∀ nd, nd ∈ more → w.heap.size ≤ nd.sb) : ∀ y, y ∈ hb :: (po.toList ++ (SB ((nds ++ [r0]) ++ more) ++ (io.toList ++ Z))) → y ∈ hb :: (ob.toList ++ (SB nds ++ Z)) ∨ w.heap.size ≤ y := fun y hy => by
  rcases List.mem_cons.1 hy with e | e
  · left; rw [e]; exact List.mem_cons_self ..
  · rcases List.mem_append.1 e with e | e
    · exact (mem_ob (cb := hb) hq y (List.mem_cons_of_mem _ e)).imp mem_left id
    · rcases List.mem_append.1 e with e | e
      · obtain ⟨nd, hn, rfl⟩ := List.mem_map.1 e
        rcases List.mem_append.1 hn with hn | hn
        · rcases List.mem_append.1 hn with hn | hn
          · exact .inl (memZ (List.mem_append_left _ (List.mem_map.2 ⟨nd, hn, rfl⟩)))
          · rw [List.mem_singleton.1 hn]; exact .inr hr
        · exact .inr (hf nd hn)
      · rcases List.mem_append.1 e with e | e
        · exact .inr (hg y (by simpa using e))
        · exact .inl (memZ (List.mem_append_right _ e))

set_option maxHeartbeats 8000000 in
theorem lay_step {n : Nat} (ih : ∀ {w : World} {hb N : Nat} {ra : Option Addr} {rc : Nat} {nds : List Nd} {a : Option Addr} {c : Nat} {ob : Option Nat} {Z : List Nat} {vs : List Value} {t : Rx} (hS : ShAt w hb N ra rc nds a c ob Z) (hx : RRx n (hb :: (ob.toList ++ (SB nds ++ Z))) w vs t) (hN : N ≤ 1000) (hl : nds.length + t.cnt ≤ 100000) (hZ : ∀ z, z ∈ Z → z < w.heap.size), Calls Try.prog 24 #[.pointer (some ⟨hb, 0, none⟩), .agg vs.toArray] w (Ret fun v w' => Evo (hb :: ob.toList) w w' ∧ v = iv (nds.length : Nat) ∧ ∃ more, ShTo w w' hb N ra rc ob (nds ++ more) Z ∧ Lays (nds ++ more) nds.length nds.length t ∧ more.length = t.cnt ∧ ∀ nd, nd ∈ more → w.heap.size ≤ nd.sb)) {w : World} {hb N : Nat} {ra : Option Addr} {rc : Nat} {nds : List Nd} {a : Option Addr} {c : Nat} {ob : Option Nat} {Z : List Nat} {vs : List Value} {t : Rx} (hS : ShAt w hb N ra rc nds a c ob Z) (hx : RRx (n + 1) (hb :: (ob.toList ++ (SB nds ++ Z))) w vs t) (hN : N ≤ 1000) (hl : nds.length + t.cnt ≤ 100000) (hZ : ∀ z, z ∈ Z → z < w.heap.size) : Calls Try.prog 24 #[.pointer (some ⟨hb, 0, none⟩), .agg vs.toArray] w (Ret fun v w' => Evo (hb :: ob.toList) w w' ∧ v = iv (nds.length : Nat) ∧ ∃ more, ShTo w w' hb N ra rc ob (nds ++ more) Z ∧ Lays (nds ++ more) nds.length nds.length t ∧ more.length = t.cnt ∧ ∀ nd, nd ∈ more → w.heap.size ≤ nd.sb) := by
  have hXlt := hS.lt
  have hx0 := hx
  obtain ⟨m, xa, xc, ka, kc, hm, rfl, hrg, hk, bl1, bl2, bl3⟩ := hx.get
  obtain rfl : m = n := by omega
  obtain ⟨_, _, hke, hkc, e1⟩ := hk
  cases hke
  have hAJN0 : Apart (some hb) ob := fun g h1 h2 => by cases h1; exact hS.ne hb h2 rfl
  have hcn := t.cnt_eq
  have hmZ : ∀ b, b ∈ hb :: ob.toList → b ∈ hb :: (ob.toList ++ (SB nds ++ Z)) := fun b hb => mem_left hb
  refine calls_of_cw (N := 57) Try.func24 rfl rfl rfl ?_
  refine cw_seq ?_
  refine cw_region ?_
  refine wl_boxA rfl rfl fun b3 w1 hB2 hs3 hw4 => ?_
  have hsz_b3 := hs3
  have hA5 := Apart.new (Lt.blk hS.blk) hs3
  have hA6 := Apart.new (Lt.own hS.own) hs3
  have hG7 := Ge.new (Evo.refl (hb :: ob.toList) w) hs3
  have hG8 := Ge.new (Evo.refl [] w) hs3
  have hE9 := (Evo.refl (hb :: ob.toList) w).then hw4
  have hE10 := (Evo.refl [] w).then hw4
  have hB11 := hw4.blk0 hS.blk
  have hO12 := hS.own.evo0 hw4
  refine wl_a ?_
  refine wl_nil (nrm_then ?_)
  refine cw_seq ?_
  refine cw_region ?_
  refine wl_m ?_
  refine wl_val rfl (ex_nilCheck rfl) ?_
  refine wl_val rfl (ex_fieldAddr rfl Try.fld64_0) ?_
  refine wl_val rfl (ex_load1 rfl Try.agg62 (cell_nth hB11 rfl)) ?_
  refine wl_val rfl (ex_len_slice rfl Try.underlying62 rfl) ?_
  refine wl_a ?_
  refine wl_nil (nrm_then ?_)
  refine cw_seq ?_
  refine cw_cut (α := Nat × Option Addr × Nat × Option Nat) (fun x => []) [(0, _), (3, _), (4, _), (5, _)] (fun x wr => Evo (hb :: ob.toList) w wr ∧ (ShAt wr hb N ra rc (nds ++ [⟨t, [iv t.kind, .int .i32 t.r, .slice xa t.ranges.length xc, iv t.min, iv t.max, .bool t.lazy, iv t.cap, .string t.name, .slice ka t.kids.length kc], [], .slice none 0 0, x.1⟩]) x.2.1 x.2.2.1 x.2.2.2 Z ∧ (x.2.2.2 = ob ∨ ∃ g, x.2.2.2 = some g ∧ w.heap.size ≤ g) ∧ wr.heap[b3]? = some (.cells #[iv t.kind, .int .i32 t.r, .slice xa t.ranges.length xc, iv t.min, iv t.max, .bool t.lazy, iv t.cap, .string t.name, .slice ka t.kids.length kc] 25 (0, 0)) ∧ Apart (some b3) (some hb) ∧ Apart (some b3) x.2.2.2 ∧ w.heap.size ≤ x.1)) ⟨rfl, rfl, rfl, rfl, trivial⟩ ?_ ?_
  ·skip
   refine cw_any (fun w0 w' => Evo (hb :: ob.toList) w0 w') (by kernel_rfl) (fun w13 hw14 => ?_)
   have hE15 := hE9.then hw14
   have hE16 := hE10.then hw14
   have hB17 := hw14.blk0 hB11
   have hO18 := hO12.evo0 hw14
   have hB19 := hw14.blk0 hB2
   refine ae_take 0 rfl (by kernel_rfl) (by kernel_rfl) (by kernel_rfl) rfl (fun _ hS => ex_move rfl) (Evo.refl (hb :: ob.toList) w13) ?_
   refine ae_take 1 rfl (by kernel_rfl) (by kernel_rfl) (by kernel_rfl) rfl (fun _ hS => ex_move rfl) (Evo.refl (hb :: ob.toList) w13) ?_
   refine ae_take 2 rfl (by kernel_rfl) (by kernel_rfl) (by kernel_rfl) rfl (fun _ hS => ex_nilCheck rfl) (Evo.refl (hb :: ob.toList) w13) ?_
   refine ae_take 3 rfl (by kernel_rfl) (by kernel_rfl) (by kernel_rfl) rfl (fun _ hS => ex_fieldAddr rfl Try.fld64_0) (Evo.refl (hb :: ob.toList) w13) ?_
   refine ae_take 5 rfl (by kernel_rfl) (by kernel_rfl) (by kernel_rfl) rfl (fun _ hS => ex_loadBlk rfl Try.agg25 Try.size25 (hS.blk hB19 (nmem2 hA5.symm hA6.symm)) rfl) (Evo.refl (hb :: ob.toList) w13) ?_
   refine ae_take 6 rfl (by kernel_rfl) (by kernel_rfl) (by kernel_rfl) rfl (fun _ hS => ex_move rfl) (Evo.refl (hb :: ob.toList) w13) ?_
   refine ae_take 7 rfl (by kernel_rfl) (by kernel_rfl) (by kernel_rfl) rfl (fun _ hS => ex_nilCheck rfl) (Evo.refl (hb :: ob.toList) w13) ?_
   refine ae_take 8 rfl (by kernel_rfl) (by kernel_rfl) (by kernel_rfl) rfl (fun _ hS => ex_fieldAddr rfl Try.fld64_1) (Evo.refl (hb :: ob.toList) w13) ?_
   refine ae_loud [4, 9] (by kernel_rfl) rfl ⟨?_, ?_, trivial⟩
   ·skip
    refine a_step rfl ?_
    refine wl_val rfl (ex_load1 rfl Try.agg62 (cell_nth hB17 rfl)) ?_
    refine wl_nil (ae_next (.inl (Evo.refl (hb :: ob.toList) w13)) ?_)
    refine ae_loud [9] (by kernel_rfl) rfl ⟨?_, trivial⟩
    refine a_step rfl ?_
    refine wl_val rfl (ex_load1 rfl Try.agg58 (cell_nth hB17 rfl)) ?_
    refine wl_nil (ae_next (.inl (Evo.refl (hb :: ob.toList) w13)) ?_)
    refine ae_take 10 rfl (by kernel_rfl) (by kernel_rfl) (by kernel_rfl) rfl (fun _ hS => ex_len_slice rfl Try.underlying58 rfl) (Evo.refl (hb :: ob.toList) w13) ?_
    refine ae_take 11 rfl (by kernel_rfl) (by kernel_rfl) (by kernel_rfl) rfl (fun _ hS => ex_add_i64 rfl rfl (by omega) (by omega)) (Evo.refl (hb :: ob.toList) w13) ?_
    refine ae_loud [12] (by kernel_rfl) rfl ⟨?_, trivial⟩
    refine a_step rfl ?_
    refine wl_make (len := N + 1) (c := N + 1) rfl rfl rfl Try.make87 (by omega) (by omega) (by omega) (by decide) (by omega) (by omega) fun sbn w21 hSn hs23 hw24 => ?_
    have hA25 := Apart.new (Lt.blk hB17) hs23
    have hA26 := Apart.new (Lt.own hO18) hs23
    have hA27 := Apart.new (Lt.blk hB19) hs23
    have hG28 := Ge.new hE15 hs23
    have hG29 := Ge.new hE16 hs23
    have hG30 := Ge.new (Evo.refl (hb :: ob.toList) w13) hs23
    have hE31 := hE15.then hw24
    have hE32 := hE16.then hw24
    have hE33 := (Evo.refl (hb :: ob.toList) w13).then hw24
    have hB34 := hw24.blk0 hB17
    have hO35 := hO18.evo0 hw24
    have hB36 := hw24.blk0 hB19
    refine wl_nil (ae_next (.inl hE33) ?_)
    refine ae_take 13 rfl (by kernel_rfl) (by kernel_rfl) (by kernel_rfl) rfl (fun _ hS => ex_build (vs := [(0, _), (2, _)]) Try.build89 rfl (cells := [_, _, _, _, _, _, _, _, _, _, _]) rfl) hE33 ?_
    refine ae_loud [14] (by kernel_rfl) rfl ⟨?_, trivial⟩
    refine a_step rfl ?_
    refine wl_bslice (vs := [_]) rfl Try.slice62 rfl rfl rfl rfl fun b37 w38 hO39 hs40 hw41 => ?_
    have hA42 := Apart.new (Lt.blk hB34) hs40
    have hA43 := Apart.new (Lt.own hO35) hs40
    have hA44 := Apart.new (Lt.blk hB36) hs40
    have hA45 := Apart.new (Lt.own hSn) hs40
    have hG46 := Ge.new hE31 hs40
    have hG47 := Ge.new hE32 hs40
    have hG48 := Ge.new hE33 hs40
    have hE49 := hE31.then hw41
    have hE50 := hE32.then hw41
    have hE51 := hE33.then hw41
    have hB52 := hw41.blk0 hB34
    have hO53 := hO35.evo0 hw41
    have hB54 := hw41.blk0 hB36
    have hO55 := hSn.evo0 hw41
    refine wl_nil (ae_next (.inl hE51) ?_)
    refine ae_loud [15] (by kernel_rfl) rfl ⟨?_, trivial⟩
    refine a_step rfl ?_
    have hszg := (hE49).size
    refine wl_append rfl rfl rfl rfl Try.app62_62 hO53 (Src.ofOwn hO39 ⟨by first | rfl | assumption, by first | rfl | assumption, by first | rfl | assumption, by first | rfl | assumption, by first | rfl | assumption, by first | rfl | assumption, by first | rfl | assumption, by first | rfl | assumption, by first | rfl | assumption, by first | rfl | assumption, by first | rfl | assumption, trivial⟩) (by omega) fun a2 c2 w58 ob2 hO2 hw61 hob62 => ?_
    have hA63 := hAJN0.app (Lt.blk hB52) hob62
    have hA64 := hA6.symm.app (Lt.blk hB54) hob62
    have hA65 := hA26.symm.app (Lt.own hO55) hob62
    have hA66 := hA43.symm.app (Lt.own hO39) hob62
    have hE67 := hE49.step hw61 (by first | exact fun y hy => .inl (List.mem_cons_of_mem _ hy) | exact fun y hy => mem_ob hq2 y (List.mem_cons_of_mem _ hy))
    have hE69 := hE51.step hw61 (fun y hy => .inl (List.mem_cons_of_mem _ hy))
    have hB70 := hw61.blk hB52 hAJN0.nmem
    have hB71 := hw61.blk hB54 hA6.symm.nmem
    have hO72 := hO55.evo hw61 hA26.symm.own
    have hO73 := hO39.evo hw61 hA43.symm.own
    have hob2 : ob2 = ob ∨ ∃ g, ob2 = some g ∧ w.heap.size ≤ g := hob62.imp id (fun ⟨g, h1, h2⟩ => ⟨g, h1, Nat.le_trans hszg h2⟩)
    refine wl_nil (ae_next (.inl hE69) ?_)
    refine ae_take 16 rfl (by kernel_rfl) (by kernel_rfl) (by kernel_rfl) rfl (fun _ hS => ex_nilCheck rfl) hE69 ?_
    refine ae_take 17 rfl (by kernel_rfl) (by kernel_rfl) (by kernel_rfl) rfl (fun _ hS => ex_fieldAddr rfl Try.fld64_0) hE69 ?_
    refine ae_loud [18] (by kernel_rfl) rfl ⟨?_, trivial⟩
    refine a_step rfl ?_
    refine wl_store1 rfl rfl (by first | rfl | assumption) Try.size62 hB70 rfl fun w74 hB75 hw76 => ?_
    have hE77 := hE67.step hw76 (fun y hy => .inl (by rw [List.mem_singleton.1 hy]; exact List.mem_cons_self ..))
    have hE78 := hE69.step hw76 (fun y hy => .inl (by rw [List.mem_singleton.1 hy]; exact List.mem_cons_self ..))
    have hB79 := hw76.blk hB71 hA5.symm.nmem1
    have hO80 := hO72.evo hw76 hA25.symm.own1
    have hO81 := hO73.evo hw76 hA42.symm.own1
    have hO82 := hO2.evo hw76 hA63.symm.own1
    try simp only [List.setIfInBounds_toArray, List.set_cons_zero, List.set_cons_succ, Nat.reduceAdd, Nat.zero_add, Nat.add_zero] at hB75
    refine wl_nil (ae_next (.inl hE78) ?_)
    refine ae_done (by kernel_rfl) (nrm_same ?_)
    refine ⟨(sbn, a2, c2, ob2), trivial, ⟨rfl, rfl, rfl, rfl, trivial⟩, hE77, ?_⟩
    exact ⟨sh_new hS hE77 hB75 hO82 hob2 hx0 rfl rfl rfl hO80 (hG28 sbn rfl) (fun h => hA25.symm sbn rfl (congrArg some h.symm)) (fun g h1 h2 => hA65 sbn rfl (h1.trans (congrArg some h2))) hZ, hob2, hB79, hA5.symm, hA64, hG28 sbn rfl⟩
   ·skip
    refine a_step rfl ?_
    refine wl_val rfl (ex_load1 rfl Try.agg58 (cell_nth hB17 rfl)) ?_
    refine wl_nil (ae_next (.inl (Evo.refl (hb :: ob.toList) w13)) ?_)
    refine ae_take 10 rfl (by kernel_rfl) (by kernel_rfl) (by kernel_rfl) rfl (fun _ hS => ex_len_slice rfl Try.underlying58 rfl) (Evo.refl (hb :: ob.toList) w13) ?_
    refine ae_take 11 rfl (by kernel_rfl) (by kernel_rfl) (by kernel_rfl) rfl (fun _ hS => ex_add_i64 rfl rfl (by omega) (by omega)) (Evo.refl (hb :: ob.toList) w13) ?_
    refine ae_loud [4, 12] (by kernel_rfl) rfl ⟨?_, ?_, trivial⟩
    ·skip
     refine a_step rfl ?_
     refine wl_val rfl (ex_load1 rfl Try.agg62 (cell_nth hB17 rfl)) ?_
     refine wl_nil (ae_next (.inl (Evo.refl (hb :: ob.toList) w13)) ?_)
     refine ae_loud [12] (by kernel_rfl) rfl ⟨?_, trivial⟩
     refine a_step rfl ?_
     refine wl_make (len := N + 1) (c := N + 1) rfl rfl rfl Try.make87 (by omega) (by omega) (by omega) (by decide) (by omega) (by omega) fun sbn w84 hSn hs86 hw87 => ?_
     have hA88 := Apart.new (Lt.blk hB17) hs86
     have hA89 := Apart.new (Lt.own hO18) hs86
     have hA90 := Apart.new (Lt.blk hB19) hs86
     have hG91 := Ge.new hE15 hs86
     have hG92 := Ge.new hE16 hs86
     have hG93 := Ge.new (Evo.refl (hb :: ob.toList) w13) hs86
     have hE94 := hE15.then hw87
     have hE95 := hE16.then hw87
     have hE96 := (Evo.refl (hb :: ob.toList) w13).then hw87
     have hB97 := hw87.blk0 hB17
     have hO98 := hO18.evo0 hw87
     have hB99 := hw87.blk0 hB19
     refine wl_nil (ae_next (.inl hE96) ?_)
     refine ae_take 13 rfl (by kernel_rfl) (by kernel_rfl) (by kernel_rfl) rfl (fun _ hS => ex_build (vs := [(0, _), (2, _)]) Try.build89 rfl (cells := [_, _, _, _, _, _, _, _, _, _, _]) rfl) hE96 ?_
     refine ae_loud [14] (by kernel_rfl) rfl ⟨?_, trivial⟩
     refine a_step rfl ?_
     refine wl_bslice (vs := [_]) rfl Try.slice62 rfl rfl rfl rfl fun b100 w101 hO102 hs103 hw104 => ?_
     have hA105 := Apart.new (Lt.blk hB97) hs103
     have hA106 := Apart.new (Lt.own hO98) hs103
     have hA107 := Apart.new (Lt.blk hB99) hs103
     have hA108 := Apart.new (Lt.own hSn) hs103
     have hG109 := Ge.new hE94 hs103
     have hG110 := Ge.new hE95 hs103
     have hG111 := Ge.new hE96 hs103
     have hE112 := hE94.then hw104
     have hE113 := hE95.then hw104
     have hE114 := hE96.then hw104
     have hB115 := hw104.blk0 hB97
     have hO116 := hO98.evo0 hw104
     have hB117 := hw104.blk0 hB99
     have hO118 := hSn.evo0 hw104
     refine wl_nil (ae_next (.inl hE114) ?_)
     refine ae_loud [15] (by kernel_rfl) rfl ⟨?_, trivial⟩
     refine a_step rfl ?_
     have hszg := (hE112).size
     refine wl_append rfl rfl rfl rfl Try.app62_62 hO116 (Src.ofOwn hO102 ⟨by first | rfl | assumption, by first | rfl | assumption, by first | rfl | assumption, by first | rfl | assumption, by first | rfl | assumption, by first | rfl | assumption, by first | rfl | assumption, by first | rfl | assumption, by first | rfl | assumption, by first | rfl | assumption, by first | rfl | assumption, trivial⟩) (by omega) fun a2 c2 w121 ob2 hO2 hw124 hob125 => ?_
     have hA126 := hAJN0.app (Lt.blk hB115) hob125
     have hA127 := hA6.symm.app (Lt.blk hB117) hob125
     have hA128 := hA89.symm.app (Lt.own hO118) hob125
     have hA129 := hA106.symm.app (Lt.own hO102) hob125
     have hE130 := hE112.step hw124 (by first | exact fun y hy => .inl (List.mem_cons_of_mem _ hy) | exact fun y hy => mem_ob hq2 y (List.mem_cons_of_mem _ hy))
     have hE132 := hE114.step hw124 (fun y hy => .inl (List.mem_cons_of_mem _ hy))
     have hB133 := hw124.blk hB115 hAJN0.nmem
     have hB134 := hw124.blk hB117 hA6.symm.nmem
     have hO135 := hO118.evo hw124 hA89.symm.own
     have hO136 := hO102.evo hw124 hA106.symm.own
     have hob2 : ob2 = ob ∨ ∃ g, ob2 = some g ∧ w.heap.size ≤ g := hob125.imp id (fun ⟨g, h1, h2⟩ => ⟨g, h1, Nat.le_trans hszg h2⟩)
     refine wl_nil (ae_next (.inl hE132) ?_)
     refine ae_take 16 rfl (by kernel_rfl) (by kernel_rfl) (by kernel_rfl) rfl (fun _ hS => ex_nilCheck rfl) hE132 ?_
     refine ae_take 17 rfl (by kernel_rfl) (by kernel_rfl) (by kernel_rfl) rfl (fun _ hS => ex_fieldAddr rfl Try.fld64_0) hE132 ?_
     refine ae_loud [18] (by kernel_rfl) rfl ⟨?_, trivial⟩
     refine a_step rfl ?_
     refine wl_store1 rfl rfl (by first | rfl | assumption) Try.size62 hB133 rfl fun w137 hB138 hw139 => ?_
     have hE140 := hE130.step hw139 (fun y hy => .inl (by rw [List.mem_singleton.1 hy]; exact List.mem_cons_self ..))
     have hE141 := hE132.step hw139 (fun y hy => .inl (by rw [List.mem_singleton.1 hy]; exact List.mem_cons_self ..))
     have hB142 := hw139.blk hB134 hA5.symm.nmem1
     have hO143 := hO135.evo hw139 hA88.symm.own1
     have hO144 := hO136.evo hw139 hA105.symm.own1
     have hO145 := hO2.evo hw139 hA126.symm.own1
     try simp only [List.setIfInBounds_toArray, List.set_cons_zero, List.set_cons_succ, Nat.reduceAdd, Nat.zero_add, Nat.add_zero] at hB138
     refine wl_nil (ae_next (.inl hE141) ?_)
     refine ae_done (by kernel_rfl) (nrm_same ?_)
     refine ⟨(sbn, a2, c2, ob2), trivial, ⟨rfl, rfl, rfl, rfl, trivial⟩, hE140, ?_⟩
     exact ⟨sh_new hS hE140 hB138 hO145 hob2 hx0 rfl rfl rfl hO143 (hG91 sbn rfl) (fun h => hA88.symm sbn rfl (congrArg some h.symm)) (fun g h1 h2 => hA128 sbn rfl (h1.trans (congrArg some h2))) hZ, hob2, hB142, hA5.symm, hA127, hG91 sbn rfl⟩
    ·skip
     refine a_step rfl ?_
     refine wl_make (len := N + 1) (c := N + 1) rfl rfl rfl Try.make87 (by omega) (by omega) (by omega) (by decide) (by omega) (by omega) fun sbn w147 hSn hs149 hw150 => ?_
     have hA151 := Apart.new (Lt.blk hB17) hs149
     have hA152 := Apart.new (Lt.own hO18) hs149
     have hA153 := Apart.new (Lt.blk hB19) hs149
     have hG154 := Ge.new hE15 hs149
     have hG155 := Ge.new hE16 hs149
     have hG156 := Ge.new (Evo.refl (hb :: ob.toList) w13) hs149
     have hE157 := hE15.then hw150
     have hE158 := hE16.then hw150
     have hE159 := (Evo.refl (hb :: ob.toList) w13).then hw150
     have hB160 := hw150.blk0 hB17
     have hO161 := hO18.evo0 hw150
     have hB162 := hw150.blk0 hB19
     refine wl_nil (ae_next (.inl hE159) ?_)
     refine ae_take 13 rfl (by kernel_rfl) (by kernel_rfl) (by kernel_rfl) rfl (fun _ hS => ex_build (vs := [(0, _), (2, _)]) Try.build89 rfl (cells := [_, _, _, _, _, _, _, _, _, _, _]) rfl) hE159 ?_
     refine ae_loud [4, 14] (by kernel_rfl) rfl ⟨?_, ?_, trivial⟩
     ·skip
      refine a_step rfl ?_
      refine wl_val rfl (ex_load1 rfl Try.agg62 (cell_nth hB160 rfl)) ?_
      refine wl_nil (ae_next (.inl hE159) ?_)
      refine ae_loud [14] (by kernel_rfl) rfl ⟨?_, trivial⟩
      refine a_step rfl ?_
      refine wl_bslice (vs := [_]) rfl Try.slice62 rfl rfl rfl rfl fun b163 w164 hO165 hs166 hw167 => ?_
      have hA168 := Apart.new (Lt.blk hB160) hs166
      have hA169 := Apart.new (Lt.own hO161) hs166
      have hA170 := Apart.new (Lt.blk hB162) hs166
      have hA171 := Apart.new (Lt.own hSn) hs166
      have hG172 := Ge.new hE157 hs166
      have hG173 := Ge.new hE158 hs166
      have hG174 := Ge.new hE159 hs166
      have hE175 := hE157.then hw167
      have hE176 := hE158.then hw167
      have hE177 := hE159.then hw167
      have hB178 := hw167.blk0 hB160
      have hO179 := hO161.evo0 hw167
      have hB180 := hw167.blk0 hB162
      have hO181 := hSn.evo0 hw167
      refine wl_nil (ae_next (.inl hE177) ?_)
      refine ae_loud [15] (by kernel_rfl) rfl ⟨?_, trivial⟩
      refine a_step rfl ?_
      have hszg := (hE175).size
      refine wl_append rfl rfl rfl rfl Try.app62_62 hO179 (Src.ofOwn hO165 ⟨by first | rfl | assumption, by first | rfl | assumption, by first | rfl | assumption, by first | rfl | assumption, by first | rfl | assumption, by first | rfl | assumption, by first | rfl | assumption, by first | rfl | assumption, by first | rfl | assumption, by first | rfl | assumption, by first | rfl | assumption, trivial⟩) (by omega) fun a2 c2 w184 ob2 hO2 hw187 hob188 => ?_
      have hA189 := hAJN0.app (Lt.blk hB178) hob188
      have hA190 := hA6.symm.app (Lt.blk hB180) hob188
      have hA191 := hA152.symm.app (Lt.own hO181) hob188
      have hA192 := hA169.symm.app (Lt.own hO165) hob188
      have hE193 := hE175.step hw187 (by first | exact fun y hy => .inl (List.mem_cons_of_mem _ hy) | exact fun y hy => mem_ob hq2 y (List.mem_cons_of_mem _ hy))
      have hE195 := hE177.step hw187 (fun y hy => .inl (List.mem_cons_of_mem _ hy))
      have hB196 := hw187.blk hB178 hAJN0.nmem
      have hB197 := hw187.blk hB180 hA6.symm.nmem
      have hO198 := hO181.evo hw187 hA152.symm.own
      have hO199 := hO165.evo hw187 hA169.symm.own
      have hob2 : ob2 = ob ∨ ∃ g, ob2 = some g ∧ w.heap.size ≤ g := hob188.imp id (fun ⟨g, h1, h2⟩ => ⟨g, h1, Nat.le_trans hszg h2⟩)
      refine wl_nil (ae_next (.inl hE195) ?_)
      refine ae_take 16 rfl (by kernel_rfl) (by kernel_rfl) (by kernel_rfl) rfl (fun _ hS => ex_nilCheck rfl) hE195 ?_
      refine ae_take 17 rfl (by kernel_rfl) (by kernel_rfl) (by kernel_rfl) rfl (fun _ hS => ex_fieldAddr rfl Try.fld64_0) hE195 ?_
      refine ae_loud [18] (by kernel_rfl) rfl ⟨?_, trivial⟩
      refine a_step rfl ?_
      refine wl_store1 rfl rfl (by first | rfl | assumption) Try.size62 hB196 rfl fun w200 hB201 hw202 => ?_
      have hE203 := hE193.step hw202 (fun y hy => .inl (by rw [List.mem_singleton.1 hy]; exact List.mem_cons_self ..))
      have hE204 := hE195.step hw202 (fun y hy => .inl (by rw [List.mem_singleton.1 hy]; exact List.mem_cons_self ..))
      have hB205 := hw202.blk hB197 hA5.symm.nmem1
      have hO206 := hO198.evo hw202 hA151.symm.own1
      have hO207 := hO199.evo hw202 hA168.symm.own1
      have hO208 := hO2.evo hw202 hA189.symm.own1
      try simp only [List.setIfInBounds_toArray, List.set_cons_zero, List.set_cons_succ, Nat.reduceAdd, Nat.zero_add, Nat.add_zero] at hB201
      refine wl_nil (ae_next (.inl hE204) ?_)
      refine ae_done (by kernel_rfl) (nrm_same ?_)
      refine ⟨(sbn, a2, c2, ob2), trivial, ⟨rfl, rfl, rfl, rfl, trivial⟩, hE203, ?_⟩
      exact ⟨sh_new hS hE203 hB201 hO208 hob2 hx0 rfl rfl rfl hO206 (hG154 sbn rfl) (fun h => hA151.symm sbn rfl (congrArg some h.symm)) (fun g h1 h2 => hA191 sbn rfl (h1.trans (congrArg some h2))) hZ, hob2, hB205, hA5.symm, hA190, hG154 sbn rfl⟩
     ·skip
      refine a_step rfl ?_
      refine wl_bslice (vs := [_]) rfl Try.slice62 rfl rfl rfl rfl fun b209 w210 hO211 hs212 hw213 => ?_
      have hA214 := Apart.new (Lt.blk hB160) hs212
      have hA215 := Apart.new (Lt.own hO161) hs212
      have hA216 := Apart.new (Lt.blk hB162) hs212
      have hA217 := Apart.new (Lt.own hSn) hs212
      have hG218 := Ge.new hE157 hs212
      have hG219 := Ge.new hE158 hs212
      have hG220 := Ge.new hE159 hs212
      have hE221 := hE157.then hw213
      have hE222 := hE158.then hw213
      have hE223 := hE159.then hw213
      have hB224 := hw213.blk0 hB160
      have hO225 := hO161.evo0 hw213
      have hB226 := hw213.blk0 hB162
      have hO227 := hSn.evo0 hw213
      refine wl_nil (ae_next (.inl hE223) ?_)
      refine ae_loud [4] (by kernel_rfl) rfl ⟨?_, trivial⟩
      refine a_step rfl ?_
      refine wl_val rfl (ex_load1 rfl Try.agg62 (cell_nth hB224 rfl)) ?_
      refine wl_nil (ae_next (.inl hE223) ?_)
      refine ae_loud [15] (by kernel_rfl) rfl ⟨?_, trivial⟩
      refine a_step rfl ?_
      have hszg := (hE221).size
      refine wl_append rfl rfl rfl rfl Try.app62_62 hO225 (Src.ofOwn hO211 ⟨by first | rfl | assumption, by first | rfl | assumption, by first | rfl | assumption, by first | rfl | assumption, by first | rfl | assumption, by first | rfl | assumption, by first | rfl | assumption, by first | rfl | assumption, by first | rfl | assumption, by first | rfl | assumption, by first | rfl | assumption, trivial⟩) (by omega) fun a2 c2 w230 ob2 hO2 hw233 hob234 => ?_
      have hA235 := hAJN0.app (Lt.blk hB224) hob234
      have hA236 := hA6.symm.app (Lt.blk hB226) hob234
      have hA237 := hA152.symm.app (Lt.own hO227) hob234
      have hA238 := hA215.symm.app (Lt.own hO211) hob234
      have hE239 := hE221.step hw233 (by first | exact fun y hy => .inl (List.mem_cons_of_mem _ hy) | exact fun y hy => mem_ob hq2 y (List.mem_cons_of_mem _ hy))
      have hE241 := hE223.step hw233 (fun y hy => .inl (List.mem_cons_of_mem _ hy))
      have hB242 := hw233.blk hB224 hAJN0.nmem
      have hB243 := hw233.blk hB226 hA6.symm.nmem
      have hO244 := hO227.evo hw233 hA152.symm.own
      have hO245 := hO211.evo hw233 hA215.symm.own
      have hob2 : ob2 = ob ∨ ∃ g, ob2 = some g ∧ w.heap.size ≤ g := hob234.imp id (fun ⟨g, h1, h2⟩ => ⟨g, h1, Nat.le_trans hszg h2⟩)
      refine wl_nil (ae_next (.inl hE241) ?_)
      refine ae_take 16 rfl (by kernel_rfl) (by kernel_rfl) (by kernel_rfl) rfl (fun _ hS => ex_nilCheck rfl) hE241 ?_
      refine ae_take 17 rfl (by kernel_rfl) (by kernel_rfl) (by kernel_rfl) rfl (fun _ hS => ex_fieldAddr rfl Try.fld64_0) hE241 ?_
      refine ae_loud [18] (by kernel_rfl) rfl ⟨?_, trivial⟩
      refine a_step rfl ?_
      refine wl_store1 rfl rfl (by first | rfl | assumption) Try.size62 hB242 rfl fun w246 hB247 hw248 => ?_
      have hE249 := hE239.step hw248 (fun y hy => .inl (by rw [List.mem_singleton.1 hy]; exact List.mem_cons_self ..))
      have hE250 := hE241.step hw248 (fun y hy => .inl (by rw [List.mem_singleton.1 hy]; exact List.mem_cons_self ..))
      have hB251 := hw248.blk hB243 hA5.symm.nmem1
      have hO252 := hO244.evo hw248 hA151.symm.own1
      have hO253 := hO245.evo hw248 hA214.symm.own1
      have hO254 := hO2.evo hw248 hA235.symm.own1
      try simp only [List.setIfInBounds_toArray, List.set_cons_zero, List.set_cons_succ, Nat.reduceAdd, Nat.zero_add, Nat.add_zero] at hB247
      refine wl_nil (ae_next (.inl hE250) ?_)
      refine ae_done (by kernel_rfl) (nrm_same ?_)
      refine ⟨(sbn, a2, c2, ob2), trivial, ⟨rfl, rfl, rfl, rfl, trivial⟩, hE249, ?_⟩
      exact ⟨sh_new hS hE249 hB247 hO254 hob2 hx0 rfl rfl rfl hO252 (hG154 sbn rfl) (fun h => hA151.symm sbn rfl (congrArg some h.symm)) (fun g h1 h2 => hA237 sbn rfl (h1.trans (congrArg some h2))) hZ, hob2, hB251, hA5.symm, hA236, hG154 sbn rfl⟩
  ·skip
   rintro ⟨sbn, a2, c2, ob2⟩ w255 ⟨hV256, ⟨hsh, hq, hb3, ha1, ha2, hsbn⟩⟩
   refine nrm_then ?_
   show CW _ _ _ _ [(0, _), (3, _), (4, _), (5, _)] _
   try dsimp only at hsh
   try dsimp only at hq
   try dsimp only at hb3
   try dsimp only at ha1
   try dsimp only at ha2
   try dsimp only at hsbn
   refine cw_seq ?_
   refine cw_region ?_
   refine wl_a ?_
   refine wl_nil (nrm_then ?_)
   refine cw_seq ?_
   refine cw_seq ?_
   refine cw_region ?_
   refine wl_a ?_
   refine wl_nil (nrm_then ?_)
   refine cw_block ?_
   refine cw_loop (α := LyG) (⟨0, [], a2, c2, ob2, [], none, 0, none⟩) (fun x => [(7, .int .i64 (x.j : Nat)), (6, .slice x.ia x.j x.ic)]) [(0, _), (3, _), (4, _), (5, _)] (fun x wr => Evo (hb :: ob.toList) w wr ∧ (LyI w wr hb N ra rc nds ⟨t, [iv t.kind, .int .i32 t.r, .slice xa t.ranges.length xc, iv t.min, iv t.max, .bool t.lazy, iv t.cap, .string t.name, .slice ka t.kids.length kc], [], .slice none 0 0, sbn⟩ t.kids ob Z b3 #[iv t.kind, .int .i32 t.r, .slice xa t.ranges.length xc, iv t.min, iv t.max, .bool t.lazy, iv t.cap, .string t.name, .slice ka t.kids.length kc] x)) (fun x => t.kids.length - x.j) ⟨rfl, rfl, trivial⟩ ⟨rfl, rfl, rfl, rfl, trivial⟩ ⟨hV256, ⟨Nat.zero_le _, by rw [List.append_nil]; exact hsh, hq, rfl, rfl, (fun i h => by cases h), OwnS.nil _ _ _, Apart.nil _, Apart.nil _, Ge.nil _, hb3, ha1, ha2, Apart.nil _, (fun nd h => by cases h)⟩⟩ ?_
   rintro ⟨j, more, pa, pc, po, ids, ia, ic, io⟩ wr257 ⟨hV258, ⟨hj, hsh2, hq2, hlen, hil, hlays, hio, hap1, hap2, hge, hb32, ha12, ha22, ha32, hfr⟩⟩
   show CW _ _ _ _ [(7, .int .i64 (j : Nat)), (6, .slice ia j ic), (0, _), (3, _), (4, _), (5, _)] _
   try dsimp only at hj
   try dsimp only at hsh2
   try dsimp only at hq2
   try dsimp only at hlen
   try dsimp only at hil
   try dsimp only at hlays
   try dsimp only at hio
   try dsimp only at hap1
   try dsimp only at hap2
   try dsimp only at hge
   try dsimp only at hb32
   try dsimp only at ha12
   try dsimp only at ha22
   try dsimp only at ha32
   try dsimp only at hfr
   have hAJN2 : Apart (some hb) po := fun g h1 h2 => by cases h1; exact hsh2.ne hb h2 rfl
   refine cw_seq ?_
   refine cw_seq ?_
   refine cw_region ?_
   refine wl_m ?_
   refine wl_val rfl (ex_fieldAddr rfl Try.fld25_8) ?_
   refine wl_val rfl (ex_load1 rfl Try.agg23 (cell_nth hb32 rfl)) ?_
   refine wl_val rfl (ex_len_slice rfl Try.underlying23 rfl) ?_
   refine wl_val rfl (ex_lss rfl rfl) ?_
   refine wl_nil (nrm_then ?_)
   refine cw_if rfl (fun hc35 => ?_) (fun hc35 => ?_)
   ·skip
    have hj' : j < t.kids.length := by omega
    obtain ⟨b1, o1, vs1, ha1, hb1, hvl1, hc1, hrk⟩ := e1 j hj'
    obtain ⟨m1, ra1, rc1, ka1, kc1, rfl, rfl, -⟩ := id hrk.get
    have hcl := cnts_le hj'
    have hkl9 := cnts_len t.kids
    refine cw_skip (nrm_then ?_)
    refine cw_seq ?_
    refine cw_block ?_
    refine cw_region ?_
    refine wl_m ?_
    refine wl_m ?_
    refine wl_val rfl (ex_fieldAddr rfl Try.fld25_8) ?_
    refine wl_val rfl (ex_load1 rfl Try.agg23 (cell_nth hb32 rfl)) ?_
    refine wl_m ?_
    refine wl_val rfl (ex_indexAddr (n := j) (by rw [ha1]; rfl) rfl Try.elem23 (by omega)) ?_
    refine wl_val rfl (ex_loadA rfl Try.agg25 Try.size25 (vs := [_, _, _, _, _, _, _, _, _]) rfl (hc1.evo hV258 (fun hm => hb1 (mem_left hm)))) ?_
    refine wl_call1 (vs := [_, _]) Try.goes24 rfl (ih (t := t.kids[j]) (hsh2.evo0 (Evo.refl [] wr257)) (hrk.move ((hV258).mono hmZ) (mem_ioZ hq2 hge hsbn hfr)) hN (by simp only [List.length_append, List.length_cons, List.length_nil]; omega) (ltZ hZ hV258 (Lt.own hio))) rfl ?_
    rintro _ w259 ⟨hw260, rfl, more2, hto, hlay2, hlen2, hfr2⟩
    have hlt3 := (Lt.blk hb32)
    have hltI := (Lt.own hio)
    have hev45 := hV258
    have hE261 := hV258.step hw260 (mem_ob hq2)
    have hB262 := hw260.blk hb32 (nmem2 ha12 ha22)
    have hB263 := hio.evo hw260 (nmem2o hap1.symm hap2.symm)
    obtain ⟨qa, qc, qo, hS2, hqo⟩ := hto
    have hq3 := fr_trans hq2 hev45 hqo
    have hAq_b3 := ap_ob ha22 hlt3 hqo
    have hAq_IS := ap_ob hap2.symm hltI hqo
    have hAJN3 : Apart (some hb) qo := fun g h1 h2 => by cases h1; exact hS2.ne hb h2 rfl
    refine wl_bslice (vs := [_]) rfl Try.slice46 rfl rfl rfl rfl fun b264 w265 hO266 hs267 hw268 => ?_
    have hA269 := Apart.new (Lt.blk hB262) hs267
    have hA270 := Apart.new (Lt.own hB263) hs267
    have hA271 := Apart.new (Lt.blk hS2.blk) hs267
    have hA272 := Apart.new (Lt.own hS2.own) hs267
    have hG273 := Ge.new hE261 hs267
    have hG274 := Ge.new (Evo.refl io.toList w259) hs267
    have hE275 := hE261.then hw268
    have hE276 := (Evo.refl io.toList w259).then hw268
    have hB277 := hw268.blk0 hB262
    have hO278 := hB263.evo0 hw268
    have hB279 := hw268.blk0 hS2.blk
    have hO280 := hS2.own.evo0 hw268
    have hcdB := hE276
    refine wl_append rfl rfl rfl rfl Try.app46_46 hO278 (Src.ofOwn hO266 ⟨by first | rfl | assumption, trivial⟩) (by omega) fun ia2 ic2 w283 io2 hI2 hw286 hob287 => ?_
    have hA288 := ha32.app (Lt.blk hB277) hob287
    have hA289 := hap1.app (Lt.blk hB279) hob287
    have hA290 := hAq_IS.symm.app (Lt.own hO280) hob287
    have hA291 := hA270.symm.app (Lt.own hO266) hob287
    have hG292 := hge.app hE275 hob287
    have hE293 := hE275.step hw286 hge.mem
    have hE294 := hE276.step hw286 (fun y hy => .inl hy)
    have hB295 := hw286.blk hB277 ha32.nmem
    have hB296 := hw286.blk hB279 hap1.nmem
    have hO297 := hO280.evo hw286 hAq_IS.symm.own
    have hO298 := hO266.evo hw286 hA270.symm.own
    have hio2 := hob287
    refine wl_a ?_
    refine wl_nil (nrm_block (nrm_then ?_))
    refine cw_region ?_
    refine wl_m ?_
    refine wl_val rfl (ex_add_i64 rfl rfl (by omega) (by omega)) ?_
    refine wl_a ?_
    refine wl_nil (nrm_same ?_)
    refine ⟨⟨j + 1, more ++ more2, qa, qc, qo, ids ++ [nds.length + 1 + more.length], ia2, ic2, io2⟩, ?_, ⟨rfl, rfl, trivial⟩, ⟨rfl, rfl, rfl, rfl, trivial⟩, hE293, ?_⟩
    · (try dsimp only); omega
    ·skip
     try dsimp only
     refine ⟨by show j + 1 ≤ _; omega, (hS2.evo hE294 hap1.nmem hAq_IS.symm.own (fun y hy => List.mem_append_left _ hy) (mem_joZ hcdB hio2)).cast (List.append_assoc ..), hq3, ?_, ?_, fun i hi hi' => ?_, ?_, hA289, hA290, hG292, hB295, ha12, hAq_b3, hA288, fun nd hn => (List.mem_append.1 hn).elim (hfr nd) (fun h => Nat.le_trans hev45.size (hfr2 nd h))⟩
     · show (more ++ more2).length = cnts (t.kids.take (j + 1)); rw [List.length_append, cnts_take hj', hlen2, ← hlen]
     · show (ids ++ [_]).length = j + 1; rw [List.length_append, hil]; rfl
     · have h := hlay2
       rw [List.append_assoc] at h; simp only [List.length_append, List.length_cons, List.length_nil, Nat.zero_add] at h
       exact lays_snoc hil hj' hlays h (by omega) i hi hi'
     · have h : OwnS w283 3 1 ia2 (j + 1) ic2 (ivs ids ++ [iv (((nds ++ [(⟨t, [iv t.kind, .int .i32 t.r, .slice xa t.ranges.length xc, iv t.min, iv t.max, .bool t.lazy, iv t.cap, .string t.name, .slice ka t.kids.length kc], [], .slice none 0 0, sbn⟩ : Nd)]) ++ more).length : Nat)]) io2 := hI2
       simp only [List.length_append, List.length_cons, List.length_nil, Nat.zero_add] at h
       show OwnS _ 3 1 ia2 (j + 1) ic2 ((ids ++ [_]).map _) io2; rw [List.map_append]; exact h
   ·skip
    obtain rfl : j = t.kids.length := by omega
    refine cw_exit (ex_then (ex_then (ex_here (nrm_then ?_))))
    refine cw_seq ?_
    refine cw_region ?_
    refine wl_m ?_
    refine wl_val rfl (ex_nilCheck rfl) ?_
    refine wl_val rfl (ex_fieldAddr rfl Try.fld64_0) ?_
    refine wl_val rfl (ex_load1 rfl Try.agg62 (cell_nth hsh2.blk rfl)) ?_
    refine wl_m ?_
    refine wl_m ?_
    obtain ⟨gN, -, rfl, -⟩ := hsh2.own.cells (by simp only [List.length_append, List.length_cons, List.length_nil]; omega)
    have hnk : nds.length < ((nds ++ [(⟨t, [iv t.kind, .int .i32 t.r, .slice xa t.ranges.length xc, iv t.min, iv t.max, .bool t.lazy, iv t.cap, .string t.name, .slice ka t.kids.length kc], [], .slice none 0 0, sbn⟩ : Nd)]) ++ more).length := by simp only [List.length_append, List.length_cons, List.length_nil]; omega
    refine wl_val rfl (ex_indexAddr (n := nds.length) rfl rfl Try.elem62 hnk) ?_
    refine wl_val rfl (ex_fieldAddr rfl Try.fld89_1) ?_
    have hcd9 := (Evo.refl [] wr257)
    obtain ⟨g308, cur299, hg300, hx301, hcu302, hcs303, -⟩ := hsh2.own.at (by omega)
    cases hx301
    refine wl_store1L rfl rfl (rfl) Try.size46 hcu302 (hsh2.own.inb hcs303 (k := nds.length) (j := 9) (by omega) (by omega) (by omega)) fun w304 hB305 hw306 => ?_
    replace hw306 := evo_ob hg300 hw306
    have hO307 := hsh2.own.set' hg300 hcu302 hB305
    have hE309 := hV258.step hw306 (by first | exact fun y hy => .inl (List.mem_cons_of_mem _ hy) | exact fun y hy => mem_ob hq2 y (List.mem_cons_of_mem _ hy))
    have hB311 := hw306.blk hsh2.blk hAJN2.nmem
    have hB312 := hw306.blk hb32 ha22.nmem
    have hO313 := hio.evo hw306 hap2.symm.own
    rw [show 0 + nds.length * 11 + 9 = nds.length * 11 + 9 from by omega] at hO307
    have hO9 := hO307
    have hE9 := hw306
    refine wl_nil (nrm_then ?_)
    refine cw_seq ?_
    refine cw_region ?_
    refine wl_m ?_
    refine wl_a ?_
    refine wl_nil (nrm_then ?_)
    refine cw_ret (body_ret1 rfl rfl ?_)
    have hiz := ids_apart hap1 hap2 hge hZ
    have hsh3 := (hsh2.evo0 hcd9).evo (Evo.refl [] _) (by simp) (by simp) (by simp) (Z' := Z) (fun z hz => .inl (List.mem_append_right _ hz))
    have hset := sh_set hsh3 hnk hE9 hO9 (ids_rsl hO313 (ids_sb hiz hsh2) hil) (by rw [hil]; have := cnts_len t.kids; omega)
    rw [mod_at] at hset
    refine ⟨hE309, rfl, [⟨t, [iv t.kind, .int .i32 t.r, .slice xa t.ranges.length xc, iv t.min, iv t.max, .bool t.lazy, iv t.cap, .string t.name, .slice ka t.kids.length kc], ids, .slice ia t.kids.length ic, sbn⟩] ++ more, ⟨_, _, _, hset.cast (List.append_assoc ..), hq2⟩, ?_, ?_⟩
    · rw [← List.append_assoc]
      refine Lays.mk (nd := ⟨t, [iv t.kind, .int .i32 t.r, .slice xa t.ranges.length xc, iv t.min, iv t.max, .bool t.lazy, iv t.cap, .string t.name, .slice ka t.kids.length kc], ids, .slice ia t.kids.length ic, sbn⟩) (Nat.le_refl _) (by rw [List.getElem?_append_left (by simp), List.getElem?_append_right (Nat.le_refl _)]; simp) hil (fun i h h' => (hlays i h h').mono (fun k hk nd hn => ?_) (by omega))
      rw [List.getElem?_append_right (by rw [List.length_append]; exact hk)] at hn ⊢
      simpa using hn
    · refine ⟨by rw [List.length_append, hlen, List.take_of_length_le (Nat.le_refl _), hcn]; simp only [List.length_cons, List.length_nil]; omega, fun nd hn => ?_⟩
      rcases List.mem_append.1 hn with hn | hn
      · rw [List.mem_singleton.1 hn]; exact hsbn
      · exact hfr nd hn

theorem lay_ok : ∀ {n : Nat} {w : World} {hb N : Nat} {ra : Option Addr} {rc : Nat} {nds : List Nd} {a : Option Addr} {c : Nat} {ob : Option Nat} {Z : List Nat} {vs : List Value} {t : Rx} (hS : ShAt w hb N ra rc nds a c ob Z) (hx : RRx n (hb :: (ob.toList ++ (SB nds ++ Z))) w vs t) (hN : N ≤ 1000) (hl : nds.length + t.cnt ≤ 100000) (hZ : ∀ z, z ∈ Z → z < w.heap.size), Calls Try.prog 24 #[.pointer (some ⟨hb, 0, none⟩), .agg vs.toArray] w (Ret fun v w' => Evo (hb :: ob.toList) w w' ∧ v = iv (nds.length : Nat) ∧ ∃ more, ShTo w w' hb N ra rc ob (nds ++ more) Z ∧ Lays (nds ++ more) nds.length nds.length t ∧ more.length = t.cnt ∧ ∀ nd, nd ∈ more → w.heap.size ≤ nd.sb)
  | 0, w, hb, N, ra, rc, nds, a, c, ob, Z, vs, t, hS, hx, hN, hl, hZ => hx.elim
  | n + 1, w, hb, N, ra, rc, nds, a, c, ob, Z, vs, t, hS, hx, hN, hl, hZ => lay_step (n := n) (fun hS hx hN hl hZ => lay_ok hS hx hN hl hZ) hS hx hN hl hZ

end Go.Proofs.Ytgboffefbpligaa
