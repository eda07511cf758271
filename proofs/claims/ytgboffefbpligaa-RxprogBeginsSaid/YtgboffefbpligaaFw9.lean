/- The layer, ninth part: maps with strings for keys, none of them taken out: made, looked up, written, gone over. -/
import Derived.Test.YtgboffefbpligaaFw8
import Derived.Maps.RangeRun
namespace Go.W
open Go.RowKit
set_option linter.unusedSimpArgs false
set_option linter.unusedVariables false

abbrev KV := List (ByteArray × Value)
/-- The map in block b holds these, in the order in which they came. -/
def MapAt (w : World) (b : Nat) (kvs : KV) : Prop := ∃ es : Array MapEntry, w.heap[b]? = some (.map es es.size) ∧ es.toList.map (fun e => (e.key, e.val)) = kvs.map (fun kv => (Value.string kv.1, kv.2)) ∧ ∀ i (h : i < es.size), es[i].born = i
theorem MapAt.evo {X : List Nat} {w w' : World} {b : Nat} {kvs : KV} (h : MapAt w b kvs) (he : Evo X w w') (hx : b ∉ X) : MapAt w' b kvs := by
  obtain ⟨es, h1, h2⟩ := h
  exact ⟨es, he.blk h1 hx, h2⟩
theorem MapAt.evo0 {w w' : World} {b : Nat} {kvs : KV} (h : MapAt w b kvs) (he : Evo [] w w') : MapAt w' b kvs := h.evo he (by simp)
theorem MapAt.lt {w : World} {b : Nat} {kvs : KV} (h : MapAt w b kvs) : b < w.heap.size := by obtain ⟨es, h1, _⟩ := h; exact blk_lt h1
theorem Lt.map {w : World} {b : Nat} {kvs : KV} (h : MapAt w b kvs) : Lt w (some b) := fun g hg => by cases hg; exact h.lt
def mlook : KV → ByteArray → Option Value
  | [], _ => none
  | kv :: r, s => if kv.1 = s then some kv.2 else mlook r s
def mput : KV → ByteArray → Value → KV
  | [], s, v => [(s, v)]
  | kv :: r, s, v => if kv.1 = s then (s, v) :: r else kv :: mput r s v
/-- The place of a key. -/
def kidx : KV → ByteArray → Option Nat
  | [], _ => none
  | kv :: r, s => if kv.1 = s then some 0 else (kidx r s).map (· + 1)
theorem kidx_get : ∀ {kvs : KV} {s : ByteArray} {i : Nat}, kidx kvs s = some i → ∃ v, kvs[i]? = some (s, v) ∧ mlook kvs s = some v
  | kv :: r, s, i, h => by
    simp only [kidx] at h
    simp only [mlook]
    split at h
    · rename_i hk; cases h; rw [if_pos hk]; exact ⟨kv.2, by rw [← hk]; rfl, rfl⟩
    · rename_i hk
      rw [if_neg hk]
      obtain ⟨j, hj, rfl⟩ := Option.map_eq_some_iff.1 h
      obtain ⟨v, h1, h2⟩ := kidx_get hj
      exact ⟨v, h1, h2⟩
theorem kidx_none : ∀ {kvs : KV} {s : ByteArray}, kidx kvs s = none → mlook kvs s = none
  | [], _, _ => rfl
  | kv :: r, s, h => by
    simp only [kidx] at h
    simp only [mlook]
    split at h
    · cases h
    · rename_i hk
      rw [if_neg hk]
      exact kidx_none (by simpa using h)
theorem mput_some : ∀ {kvs : KV} {s : ByteArray} {v : Value} {i : Nat}, kidx kvs s = some i → mput kvs s v = kvs.set i (s, v)
  | kv :: r, s, v, i, h => by
    simp only [kidx] at h
    simp only [mput]
    split at h
    · rename_i hk; cases h; rw [if_pos hk]; rfl
    · rename_i hk
      rw [if_neg hk]
      obtain ⟨j, hj, rfl⟩ := Option.map_eq_some_iff.1 h
      rw [mput_some hj]; rfl
theorem mput_none : ∀ {kvs : KV} {s : ByteArray} {v : Value}, kidx kvs s = none → mput kvs s v = kvs ++ [(s, v)]
  | [], _, _, _ => rfl
  | kv :: r, s, v, h => by
    simp only [kidx] at h
    simp only [mput]
    split at h
    · cases h
    · rename_i hk
      rw [if_neg hk, mput_none (by simpa using h)]; rfl
theorem ba_beq (a b : ByteArray) : (a == b) = decide (a = b) := by
  cases a with | mk x => cases b with | mk y =>
  show (x == y) = _
  by_cases h : x = y
  · subst h; simp
  · rw [decide_eq_false (by simpa using h)]; exact beq_eq_false_iff_ne.2 h
theorem findNow_str (s : ByteArray) : ∀ (es : List MapEntry) (kvs : KV) (i : Nat), es.map (fun e => (e.key, e.val)) = kvs.map (fun kv => (Value.string kv.1, kv.2)) →
    Instr.findNow .string (.string s) es i = some ((kidx kvs s).bind fun j => (mlook kvs s).map fun v => (i + j, v))
  | [], kvs, i, h => by
    cases kvs with
    | nil => rfl
    | cons _ _ => simp at h
  | e :: es, kvs, i, h => by
    cases kvs with
    | nil => simp at h
    | cons kv kvs =>
      simp only [List.map_cons, List.cons.injEq, Prod.mk.injEq] at h
      simp only [Instr.findNow, h.1.1, Instr.sameNow, kidx, mlook]
      by_cases hk : kv.1 = s
      · have : (s == kv.1) = true := by rw [ba_beq, hk]; exact decide_eq_true rfl
        rw [this]
        simp [hk, h.1.2]
      · have : (s == kv.1) = false := by rw [ba_beq]; exact decide_eq_false (fun h => hk h.symm)
        rw [this]
        simp only [if_neg hk]
        rw [findNow_str s es kvs (i + 1) h.2]
        cases hx : kidx kvs s with
        | none => rfl
        | some j => simp only [Option.map_some, Option.bind_some, show i + 1 + j = i + (j + 1) by omega]
section
variable {P : Program} {N : NN} {ops : Array Oper} {R : Post} {rest : List Oper} {σ : Env} {w w' : World} {d : Nat} {dst : Option Nat} {T : TypeId} {pos : String} {after : Array Edge} {g : Option (Nat × Bool)}
theorem wl_makeMap {t : TypeId} (hd : Nat.blt d N.1 = true) (h : ∀ b w', MapAt w' b [] → w.heap.size = b → Evo [] w w' → WL P N ops R rest ((d, .map (some b)) :: σ) w') :
    WL P N ops R (⟨some d, .makeMap t none, T, pos, after, none⟩ :: rest) σ w := by
  refine wl_val (r := .map (some w.heap.size)) (w' := w.alloc (.map #[] 0)) hd (fun ρ _ => ?_) (h _ _ ⟨#[], by simpa using alloc_blk w (.map #[] 0), rfl, fun i h => by simp at h⟩ rfl (evo_alloc w _))
  have hr : (Instr.makeMap t none).run P w = .ok (.map (some w.heap.size)) (w.alloc (.map #[] 0)) := rfl
  simp [execOp, hr]
theorem run_checkKey (t : TypeId) (s : ByteArray) (e : Bool) (n : Nat) (ht : P.underlying t = some .string) : (Instr.checkKey e (n + 1) t (.string s)).run P w = .ok () w := by
  simp [Instr.checkKey, run_underlying ht]
theorem run_findKey {t : TypeId} {s : ByteArray} {es : List MapEntry} {kvs : KV} (ht : P.underlying t = some .string) (h : es.map (fun e => (e.key, e.val)) = kvs.map (fun kv => (Value.string kv.1, kv.2))) :
    (Instr.findKey t (.string s) es).run P w = .ok ((kidx kvs s).bind fun j => (mlook kvs s).map fun v => (j, v)) w := by
  simp [Instr.findKey, run_underlying ht, findNow_str s es kvs 0 h]
def zeroV (P : Program) (t : TypeId) : Option Value := (P.info? t).bind (·.zero)
theorem ex_lookup {t k e : TypeId} {x i : Operand} {b : Nat} {kvs : KV} {s : ByteArray} {z : Value} (hx : σ.ev x = some (.map (some b))) (hi : σ.ev i = some (.string s)) (ht : P.underlying t = some (.map k e)) (hk : P.underlying k = some .string) (hz : zeroV P e = some z) (hm : MapAt w b kvs) :
    Ex P σ ⟨dst, .lookup t x i false, T, pos, after, g⟩ w ((mlook kvs s).getD z) w := fun ρ ha => by
  obtain ⟨es, hb, hes, _⟩ := hm
  obtain ⟨inf, hin, hz'⟩ := Option.bind_eq_some_iff.1 hz
  have h1 := run_checkKey (P := P) (w := w) k s es.isEmpty 9999 hk
  have h2 := run_findKey (P := P) (w := w) (s := s) hk hes
  simp only [execOp, ha x _ hx, ha i _ hi, Instr.lookup, Sem.run_bind, run_underlying ht, Result.andThen_ok, getObj, Sem.run, hb]
  cases hj : kidx kvs s with
  | none =>
    rw [hj] at h2
    have h3 := kidx_none hj
    simp only [Sem.run, Result.andThen, h1, h2, h3, Option.bind_none, Option.getD_none, zeroValue, typeInfo]
    simp [h1, h2, zeroValue, typeInfo, hin, hz']
  | some j =>
    rw [hj] at h2
    obtain ⟨v, h3, h4⟩ := kidx_get hj
    rw [h4] at h2 ⊢
    simp [h1, h2]
theorem mlook_nil_map {t k e : TypeId} {x i : Operand} {s : ByteArray} {z : Value} (hx : σ.ev x = some (.map none)) (hi : σ.ev i = some (.string s)) (ht : P.underlying t = some (.map k e)) (hk : P.underlying k = some .string) (hz : zeroV P e = some z) :
    Ex P σ ⟨dst, .lookup t x i false, T, pos, after, g⟩ w z w := fun ρ ha => by
  obtain ⟨inf, hin, hz'⟩ := Option.bind_eq_some_iff.1 hz
  have h1 := run_checkKey (P := P) (w := w) k s true 9999 hk
  have h2 := run_findKey (P := P) (w := w) (s := s) (es := []) (kvs := []) hk rfl
  simp only [execOp, ha x _ hx, ha i _ hi, Instr.lookup, Sem.run_bind, run_underlying ht, Result.andThen_ok]
  simp [h1, h2, kidx, zeroValue, typeInfo, hin, hz']
theorem map_upd {es : Array MapEntry} {kvs : KV} {s : ByteArray} {v : Value} {j : Nat} (h : es.toList.map (fun e => (e.key, e.val)) = kvs.map (fun kv => (Value.string kv.1, kv.2))) :
    (es.modify j fun e => { e with key := .string s, val := v }).toList.map (fun e => (e.key, e.val)) = (kvs.set j (s, v)).map (fun kv => (Value.string kv.1, kv.2)) := by
  apply List.ext_getElem?
  intro k
  have hk := congrArg (fun l : List (Value × Value) => l[k]?) h
  simp only [List.getElem?_map] at hk ⊢
  rw [Array.getElem?_toList] at hk ⊢
  rw [Array.getElem?_modify, List.getElem?_set]
  have hl : es.size = kvs.length := by have := congrArg List.length h; simpa using this
  by_cases hjk : j = k
  · subst hjk
    rw [if_pos rfl, if_pos rfl]
    by_cases hlt : j < kvs.length
    · rw [if_pos hlt, Array.getElem?_eq_getElem (by omega)]; rfl
    · rw [if_neg hlt, Array.getElem?_eq_none (by omega)]; rfl
  · rw [if_neg hjk, if_neg hjk]; exact hk
theorem wl_mapUpdate {t k e : TypeId} {m i x : Operand} {b : Nat} {kvs : KV} {s : ByteArray} {v : Value} (hm : σ.ev m = some (.map (some b))) (hi : σ.ev i = some (.string s)) (hx : σ.ev x = some v) (ht : P.underlying t = some (.map k e)) (hk : P.underlying k = some .string) (hM : MapAt w b kvs)
    (h : ∀ w', MapAt w' b (mput kvs s v) → Evo [b] w w' → WL P N ops R rest σ w') :
    WL P N ops R (⟨none, .mapUpdate t m i x, T, pos, after, none⟩ :: rest) σ w := by
  obtain ⟨es, hb, hes, hborn⟩ := hM
  have hlt := blk_lt hb
  have hl : es.size = kvs.length := by have := congrArg List.length hes; simpa using this
  have h1 := run_checkKey (P := P) (w := w) k s false 9999 hk
  have h2 := run_findKey (P := P) (w := w) (s := s) hk hes
  cases hj : kidx kvs s with
  | none =>
    rw [hj] at h2
    refine wl_skip (w' := { w with heap := w.heap.setIfInBounds b (.map (es.push { key := .string s, val := v, born := es.size }) (es.size + 1)) }) (fun ρ ha => ?_) (h _ ⟨es.push { key := .string s, val := v, born := es.size }, by simp [hlt], ?_, ?_⟩ (evo_setObj w b _))
    · simp only [execOp, ha m _ hm, ha i _ hi, ha x _ hx, Instr.mapUpdate, Sem.run_bind, run_underlying ht, Result.andThen_ok, getObj, Sem.run, hb]
      simp [Result.andThen, h1, h2, setObj, Sem.run, hb]
    · rw [mput_none hj]; simp [hes]
    · intro q hq
      rw [Array.getElem_push]
      split
      · rename_i hlt2; exact hborn q hlt2
      · simp at hq ⊢; omega
  | some j =>
    rw [hj] at h2
    obtain ⟨v0, h3, h4⟩ := kidx_get hj
    have hjl : j < es.size := by have := (List.getElem?_eq_some_iff.1 h3).1; omega
    have hkey : es[j].key = .string s := by
      have := congrArg (fun l : List (Value × Value) => l[j]?) hes
      simp only [List.getElem?_map, h3, Array.getElem?_toList, Array.getElem?_eq_getElem hjl, Option.map_some, Option.some.injEq, Prod.mk.injEq] at this
      exact this.1
    refine wl_skip (w' := { w with heap := w.heap.setIfInBounds b (.map (es.modify j fun e => { e with key := .string s, val := v }) es.size) }) (fun ρ ha => ?_) (h _ ⟨es.modify j fun e => { e with key := .string s, val := v }, by simp [hlt], ?_, ?_⟩ (evo_setObj w b _))
    · have hs : ∀ n, Instr.sameBits (n + 1) (.string s) (.string s) = true := fun n => by simp [Instr.sameBits, ba_beq]
      simp only [execOp, ha m _ hm, ha i _ hi, ha x _ hx, Instr.mapUpdate, Sem.run_bind, run_underlying ht, Result.andThen_ok, getObj, Sem.run, hb]
      rw [h4] at h2
      simp [Result.andThen, h1, h2, setObj, Sem.run, hb, Array.getElem?_eq_getElem hjl, hkey, Instr.keyThatStays, hs 9999]
    · rw [mput_some hj]; exact map_upd hes
    · intro q hq
      simp only [Array.getElem_modify]
      split
      · exact hborn q (by simpa using hq)
      · exact hborn q (by simpa using hq)
end
/-- The iterator in block r goes over the map in block m (n entries, none laid in since) and has handed out the entries at these places. -/
def IterAt (w : World) (r m n : Nat) (seen : List Nat) : Prop := w.heap[r]? = some (.mapIter (some m) n seen.toArray n)
theorem IterAt.evo {X : List Nat} {w w' : World} {r m n : Nat} {seen : List Nat} (h : IterAt w r m n seen) (he : Evo X w w') (hx : r ∉ X) : IterAt w' r m n seen := he.blk h hx
theorem IterAt.lt {w : World} {r m n : Nat} {seen : List Nat} (h : IterAt w r m n seen) : r < w.heap.size := blk_lt h
theorem born_left {es : Array MapEntry} {seen : List Nat} (hborn : ∀ i (h : i < es.size), es[i].born = i) {e : MapEntry} (he : e ∈ (leftOf es seen.toArray).toList) :
    ∃ i, ∃ h : i < es.size, es[i] = e ∧ e.born = i ∧ i ∉ seen := by
  obtain ⟨h1, h2⟩ := mem_left he
  obtain ⟨i, hi, rfl⟩ := List.mem_iff_getElem.1 h1
  have hi' : i < es.size := by simpa using hi
  have hb := hborn i hi'
  refine ⟨i, hi', by simp, by simpa using hb, fun hm => ?_⟩
  have : (es.toList[i]).born = i := by simpa using hb
  rw [this] at h2
  simp [hm] at h2
theorem left_none {es : Array MapEntry} {seen : List Nat} (hborn : ∀ i (h : i < es.size), es[i].born = i) (he : (leftOf es seen.toArray).size = 0) : ∀ i, i < es.size → i ∈ seen := by
  intro i hi
  refine Classical.byContradiction fun hm => ?_
  have : es[i] ∈ leftOf es seen.toArray := Array.mem_filter.2 ⟨Array.getElem_mem hi, by rw [hborn i hi]; simp [hm]⟩
  rw [Array.eq_empty_of_size_eq_zero he] at this
  simp at this
section
variable {P : Program} {N : NN} {ops : Array Oper} {R : Post} {rest : List Oper} {σ : Env} {w w' : World} {d : Nat} {dst : Option Nat} {T : TypeId} {pos : String} {after : Array Edge} {g : Option (Nat × Bool)}
theorem wl_rangeM {t k e : TypeId} {x : Operand} {b : Nat} {kvs : KV} (hd : Nat.blt d N.1 = true) (hx : σ.ev x = some (.map (some b))) (ht : P.underlying t = some (.map k e)) (hm : MapAt w b kvs)
    (h : ∀ r w', IterAt w' r b kvs.length [] → w.heap.size = r → Evo [] w w' → WL P N ops R rest ((d, .pointer (some ⟨r, 0, none⟩)) :: σ) w') :
    WL P N ops R (⟨some d, .range t x, T, pos, after, none⟩ :: rest) σ w := by
  obtain ⟨es, hb, hes, hborn⟩ := hm
  have hl : es.size = kvs.length := by have := congrArg List.length hes; simpa using this
  refine wl_val (w' := w.alloc (.mapIter (some b) es.size #[] es.size)) hd (fun ρ ha => ?_) (h _ _ (by unfold IterAt; rw [← hl]; exact alloc_blk w _) rfl (evo_alloc w _))
  simp only [execOp, ha x _ hx, Sem.run_bind, run_range_map w t k e b es es.size ht hb, Result.andThen_ok, Sem.run_pure]
theorem wl_rangeM0 {t k e : TypeId} {x : Operand} (hd : Nat.blt d N.1 = true) (hx : σ.ev x = some (.map none)) (ht : P.underlying t = some (.map k e))
    (h : ∀ r w', w'.heap[r]? = some (.mapIter none 0 #[] 0) → w.heap.size = r → Evo [] w w' → WL P N ops R rest ((d, .pointer (some ⟨r, 0, none⟩)) :: σ) w') :
    WL P N ops R (⟨some d, .range t x, T, pos, after, none⟩ :: rest) σ w := by
  refine wl_val (w' := w.alloc (.mapIter none 0 #[] 0)) hd (fun ρ ha => ?_) (h _ _ (alloc_blk w _) rfl (evo_alloc w _))
  simp only [execOp, ha x _ hx, Sem.run_bind, run_range_nilMap w t k e ht, Result.andThen_ok, Sem.run_pure]
theorem wl_nextM {x : Operand} {r b : Nat} {kvs : KV} {seen : List Nat} (hd : Nat.blt d N.1 = true) (hx : σ.ev x = some (.pointer (some ⟨r, 0, none⟩))) (hi : IterAt w r b kvs.length seen) (hm : MapAt w b kvs)
    (h0 : (∀ i, i < kvs.length → i ∈ seen) → WL P N ops R rest ((d, .tuple #[.bool false]) :: σ) w)
    (h1 : ∀ i kv w', kvs[i]? = some kv → i ∉ seen → IterAt w' r b kvs.length (seen ++ [i]) → Evo [r] w w' → WL P N ops R rest ((d, .tuple #[.bool true, .string kv.1, kv.2]) :: σ) w') :
    WL P N ops R (⟨some d, .next x false, T, pos, after, none⟩ :: rest) σ w := by
  obtain ⟨es, hb, hes, hborn⟩ := hm
  have hl : es.size = kvs.length := by have := congrArg List.length hes; simpa using this
  have hlt : r < w.heap.size := IterAt.lt hi
  unfold IterAt at hi
  rw [← hl] at hi
  rcases run_next_at (P := P) w T r b es.size es.size seen.toArray es es.size hi hb (fun y hy => by
    obtain ⟨i, hi, rfl⟩ := List.mem_iff_getElem.1 hy
    have hi' : i < es.size := by simpa using hi
    have := hborn i hi'
    simpa [this] using hi') (Nat.le_refl _) with ⟨hz, hr⟩ | ⟨e, he, w1, hw1, hr⟩
  · refine wl_val (w' := w) hd (fun ρ ha => ?_) (h0 (by rw [← hl]; exact left_none hborn hz))
    simp only [execOp, ha x _ hx, Sem.run_bind, hr, Result.andThen_ok, Sem.run_pure]
  · obtain ⟨i, hi', rfl, hbi, hns⟩ := born_left hborn he
    have hkv := congrArg (fun l : List (Value × Value) => l[i]?) hes
    have hkl : i < kvs.length := by omega
    simp only [List.getElem?_map, Array.getElem?_toList, Array.getElem?_eq_getElem hi', List.getElem?_eq_getElem hkl, Option.map_some, Option.some.injEq, Prod.mk.injEq] at hkv
    rw [hkv.1, hkv.2, hbi] at hr
    have hev : Evo [r] w (ChangeMaps.setBlock w1 r (.mapIter (some b) es.size (seen.toArray.push i) es.size)) := by
      rcases hw1 with rfl | rfl
      · exact evo_setObj _ _ _
      · exact Evo.trans (X := [r]) ((evo_drew w).mono (by simp)) (evo_setObj w.drew r _)
    have hit : IterAt (ChangeMaps.setBlock w1 r (.mapIter (some b) es.size (seen.toArray.push i) es.size)) r b kvs.length (seen ++ [i]) := by
      have : r < w1.heap.size := by rcases hw1 with rfl | rfl <;> exact hlt
      unfold IterAt
      rw [← hl]
      simp [ChangeMaps.setBlock, this]
    refine wl_val (w' := ChangeMaps.setBlock w1 r (.mapIter (some b) es.size (seen.toArray.push i) es.size)) hd (fun ρ ha => ?_) (h1 i _ _ (List.getElem?_eq_getElem hkl) hns hit hev)
    simp only [execOp, ha x _ hx, Sem.run_bind, hr, Result.andThen_ok, Sem.run_pure]
theorem wl_nextM0 {x : Operand} {r : Nat} (hd : Nat.blt d N.1 = true) (hx : σ.ev x = some (.pointer (some ⟨r, 0, none⟩))) (hi : w.heap[r]? = some (.mapIter none 0 #[] 0))
    (h : WL P N ops R rest ((d, .tuple #[.bool false]) :: σ) w) :
    WL P N ops R (⟨some d, .next x false, T, pos, after, none⟩ :: rest) σ w := by
  refine wl_val (w' := w) hd (fun ρ ha => ?_) h
  simp only [execOp, ha x _ hx, Instr.next, getObj, Sem.run_bind, Sem.run, hi, Result.andThen]
  rfl
end
section
variable {P : Program} {N : NN} {R : Post} {σ : Env} {w w' : World} {dst : Option Nat} {T : TypeId} {pos : String} {after : Array Edge} {g : Option (Nat × Bool)}
theorem ex_entry {x : Operand} {r b i : Nat} {kvs : KV} {seen : List Nat} {kv : ByteArray × Value} (hx : σ.ev x = some (.pointer (some ⟨r, 0, none⟩))) (hi : IterAt w r b kvs.length (seen ++ [i])) (hm : MapAt w b kvs) (hk : kvs[i]? = some kv) :
    Ex P σ ⟨dst, .entry x, T, pos, after, g⟩ w (.tuple #[.string kv.1, kv.2]) w := fun ρ ha => by
  obtain ⟨es, hb, hes, hborn⟩ := hm
  have hl : es.size = kvs.length := by have := congrArg List.length hes; simpa using this
  have hlt : i < es.size := by have := (List.getElem?_eq_some_iff.1 hk).1; omega
  have hkv := congrArg (fun l : List (Value × Value) => l[i]?) hes
  simp only [List.getElem?_map, Array.getElem?_toList, Array.getElem?_eq_getElem hlt, hk, Option.map_some, Option.some.injEq, Prod.mk.injEq] at hkv
  have hbn : es.toList.map (·.born) = List.range es.size := by
    apply List.ext_getElem
    · simp
    · intro j h1 h2
      have hj : j < es.size := by simpa using h2
      simpa using hborn j hj
  unfold IterAt at hi
  have hi2 : w.heap[r]? = some (.mapIter (some b) es.size (seen.toArray.push es[i].born) es.size) := by
    rw [hi, hborn i hlt, ← hl]; simp
  have h1 := run_entry_at (P := P) w r b es.size seen.toArray es es.size es[i] hi2 hb (by simp) (by rw [hbn]; exact List.nodup_range)
  simp only [execOp, ha x _ hx, Sem.run_bind, h1, hkv.1, hkv.2, Result.andThen_ok, Sem.run_pure]
end
theorem walks_evo {X : List Nat} {w w' : World} (h : Evo X w w') (hx : ∀ b, b ∈ X → ∃ cs t fz, w.heap[b]? = some (.cells cs t fz)) : KeepsWalks w w' := by
  refine ⟨h.size, fun k o hk ho => ?_⟩
  by_cases hm : k ∈ X
  · obtain ⟨cs, t, fz, h1⟩ := hx k hm
    rw [h1] at hk; cases hk; simp [Obj.isWalk] at ho
  · exact h.blk hk hm
/-- What a body must keep where the iterator goes over a map. -/
def KpW (n0 : Nat) (W W' : World) : Prop := Below n0 W W' ∧ KeepsWalks W W'
def roundRW {α : Type} (B n0 : Nat) (I : List α → World → Prop) (Ix : Code → List α → World → Prop) (xs : List α) (W : World) : Post
  | .normal, _, _, W' => KeepsFrom B W W' ∧ KpW n0 W W' ∧ I xs W'
  | .ret, _, _, W' => KeepsFrom B W W' ∧ Ix .ret xs W'
  | .exit id, _, _, W' => KeepsFrom B W W' ∧ Ix (.exit id) xs W'
  | .goto t, _, _, W' => KeepsFrom B W W' ∧ Ix (.goto t) xs W'
  | _, _, _, _ => False
/-- As cw_rangeFunc, for an iterator over a map; the loop variable's slot holds val x bx. -/
theorem cw_rangeFuncW {α : Type} {P : Program} {N : NN} {R : Post} {σ : Env} {w : World} {g : Operand} {p dv : Tmp} {assign body : Code} {gf : Nat} {lb : Array Value} {enc : α → Value} {val : α → Nat → Value} {S Sp : List α → Prop} {K n0 : Nat}
    (hg : σ.ev g = some (.func (.func gf) #[] lb)) (eg : ∀ args w, (callFunc gf args).run P w = .ok (.enter gf args) w) (hp : Nat.blt p N.1 = true)
    (hseq : SeqStopsK Fence.wide 4 P gf lb (fun x => #[enc x]) (KpW n0) S Sp K w) (hn0 : n0 ≤ w.heap.size)
    (I : List α → World → Prop) (Ix : Code → List α → World → Prop) (hI : OwnFrom w.heap.size I) (hIx : ∀ c, OwnFrom w.heap.size (Ix c)) (h0 : I [] w)
    (AX : α → Nat → World → Prop) (hAX : ∀ x bx, OwnFrom w.heap.size (fun (_ : Unit) W => AX x bx W))
    (hassign : ∀ l pre x W, I pre W → CWi l 3 P (N.1, []) assign (onlyR (N.1, []) fun σ' W' => ∃ bx, σ' = (dv, val x bx) :: (p, enc x) :: σ ∧ KeepsFrom w.heap.size W W' ∧ KpW n0 W W' ∧ I pre W' ∧ AX x bx W') ((p, enc x) :: σ) W)
    (hbody : ∀ l pre x bx W, I pre W → AX x bx W → pre.length < K → CWi l 3 P (N.1, []) body (roundRW w.heap.size n0 I Ix (pre ++ [x]) W) ((dv, val x bx) :: (p, enc x) :: σ) W)
    (hdone : ∀ D xs W, w.heap.size ≤ D → S xs → I xs W → W.heap[D]? = some (.deferred (some [])) → R .normal (N.1, mark D :: N.2) σ W)
    (hstop : ∀ D c pre W, w.heap.size ≤ D → Sp pre → Ix c pre W → W.heap[D]? = some (.deferred (some [])) → CW P (N.1, mark D :: N.2) c R σ W) :
    CW P N (.rangeFunc g #[p] assign body) R σ w := by
  intro a ha
  refine (wpIn_wide (n := 5)).1 (wpIn_rangeFunc_ownH rfl (by omega) (ha.agrees g _ hg) trivial eg hseq (fun h k => ⟨belowK_t h.1 k.1, walksK_t h.2 k.2⟩) (fun W l o o' h1 h2 h3 h4 => ⟨belowK_b hn0 W l o o' h1 h2 h3 h4, walksK_b (w := w) W l o o' h1 h2 h3 h4⟩) (Below.refl _ _) (fun _ => rfl) I Ix hI hIx h0
    (fun x a' W => ∃ bx, Fits (N.1, []) ((dv, val x bx) :: (p, enc x) :: σ) a' ∧ AX x bx W) ?_ ?_ ?_ ?_ ?_)
  · rintro x a' s A B row ⟨bx, hf, hs⟩ hg' hr
    exact ⟨bx, hf, hAX x bx s A B row hs hg' hr⟩
  · intro l pre x W K' hi hK
    have hf : Fits (N.1, []) ((p, enc x) :: σ) { tmps := ((#[p] : Array Tmp).zip #[enc x]).foldl (fun t (p, v) => t.setIfInBounds p v) a.tmps, defers := [] } := by
      have h1 : Fits (N.1, []) σ { tmps := a.tmps, defers := [] } := ⟨ha.1, rfl, ha.2.2⟩
      have h2 := h1.put (d := p) (of_decide_eq_true (by simpa using hp)) (enc x)
      simpa [Act.put] using h2
    refine wpIn_mono (hassign l pre x W hi _ hf) ?_
    intro e a' w' hq
    cases e with
    | normal => obtain ⟨N', σ', hf', rfl, bx, rfl, h1, h2, h3, h4⟩ := hq; exact hK _ _ h1 h2 h3 ⟨bx, hf', h4⟩
    | exit i => obtain ⟨_, _, _, hk⟩ := hq; exact hk.elim
    | goto i => obtain ⟨_, _, _, hk⟩ := hq; exact hk.elim
    | ret => obtain ⟨_, _, _, hk⟩ := hq; exact hk.elim
    | panic i => obtain ⟨_, _, hk⟩ := hq; exact hk.elim
    | outgrown => obtain ⟨_, hk⟩ := hq; exact hk.elim
  · rintro l pre x a' W _ _ hi ⟨bx, hf, hax⟩ hlt
    refine wpIn_mono (hbody l pre x bx W hi hax hlt a' hf) ?_
    intro e a' w' hq
    cases e with
    | normal => obtain ⟨N', σ', hf', hk⟩ := hq; exact hk
    | exit i => obtain ⟨_, _, _, hk⟩ := hq; exact hk
    | goto i => obtain ⟨_, _, _, hk⟩ := hq; exact hk
    | ret => obtain ⟨_, _, _, hk⟩ := hq; exact hk
    | panic i => obtain ⟨_, _, hk⟩ := hq; exact hk.elim
    | outgrown => obtain ⟨_, hk⟩ := hq; exact hk.elim
  · intro D xs W hD hS hi hK
    exact ⟨(N.1, mark D :: N.2), σ, ⟨ha.1, by rw [ha.2.1], ha.2.2⟩, hdone D xs W hD hS hi hK⟩
  · intro D c pre W hD hS hi hK
    exact wpIn_wide.2 (hstop D c pre W hD hS hi hK _ ⟨ha.1, by rw [ha.2.1], ha.2.2⟩)
theorem evo_grown1 {w w' : World} {r : Nat} (h : Evo [r] w w') : w.grownBy w' (some r) := ⟨h.os, h.tape, h.output, h.size, fun b hb hr => h.block b hb (by simpa using fun e => hr (by rw [e]))⟩

/-! ### Lists of numbers below a bound, each once -/
theorem perm_nodup {l r : List Nat} (h1 : l.Nodup) (h2 : r.Nodup) (h : ∀ x, x ∈ l ↔ x ∈ r) : l.Perm r := by
  rw [List.perm_iff_count]
  intro a
  rw [h1.count, h2.count]
  simp only [h a]
theorem seen_all {l : List Nat} {n : Nat} (h1 : l.Nodup) (h2 : ∀ x, x ∈ l → x < n) (h3 : ∀ i, i < n → i ∈ l) : l.Perm (List.range n) :=
  perm_nodup h1 List.nodup_range (fun x => ⟨fun h => List.mem_range.2 (h2 x h), fun h => h3 x (List.mem_range.1 h)⟩)
theorem seen_le {l : List Nat} {n : Nat} (h1 : l.Nodup) (h2 : ∀ x, x ∈ l → x < n) : l.length ≤ n := by
  have h := perm_nodup (l := l ++ (List.range n).filter (fun x => decide (x ∉ l))) (r := List.range n) (by
    rw [List.nodup_append]
    refine ⟨h1, List.nodup_range.filter _, fun a ha b hb e => ?_⟩
    subst e
    have := (List.mem_filter.1 hb).2
    exact of_decide_eq_true this ha) List.nodup_range (fun x => by
    rw [List.mem_append, List.mem_filter, List.mem_range]
    constructor
    · rintro (h | h)
      · exact h2 x h
      · exact h.1
    · intro h
      by_cases hx : x ∈ l
      · exact .inl hx
      · exact .inr ⟨h, decide_eq_true hx⟩)
  have := h.length_eq
  simp only [List.length_append, List.length_range] at this
  omega
section
variable {P : Program} {σ : Env} {w : World} {dst : Option Nat} {T : TypeId} {pos : String} {after : Array Edge} {g : Option (Nat × Bool)}
theorem ex_lookup_eq {t k e : TypeId} {x i : Operand} {b : Nat} {kvs : KV} {s : ByteArray} {z r : Value} (hx : σ.ev x = some (.map (some b))) (hi : σ.ev i = some (.string s)) (ht : P.underlying t = some (.map k e)) (hk : P.underlying k = some .string) (hz : zeroV P e = some z) (hm : MapAt w b kvs) (hr : (mlook kvs s).getD z = r) :
    Ex P σ ⟨dst, .lookup t x i false, T, pos, after, g⟩ w r w := hr ▸ ex_lookup hx hi ht hk hz hm
theorem run_eqMap (n : Nat) {t k e : TypeId} {m : Option Nat} (ht : P.underlying t = some (.map k e)) : (Op.equalIn (n + 1) t (.map m) (.map none)).run P w = .ok m.isNone w := by
  cases m <;> simp [Op.equalIn, run_underlying ht]
/-- m == nil. -/
theorem ex_eqMap {x y : Operand} {t k e t' : TypeId} {m : Option Nat} (hx : σ.ev x = some (.map m)) (hy : σ.ev y = some (.map none)) (ht : P.underlying t = some (.map k e)) :
    Ex P σ ⟨dst, .binOp .eql t x y t', T, pos, after, g⟩ w (.bool m.isNone) w := fun ρ hρ => by
  have h1 : (Op.equal t (.map m) (.map none)).run P w = .ok m.isNone w := run_eqMap 9999 ht
  simp [execOp, hρ x _ hx, hρ y _ hy, eqGuard, Go.binOp, h1]
end
end Go.W
