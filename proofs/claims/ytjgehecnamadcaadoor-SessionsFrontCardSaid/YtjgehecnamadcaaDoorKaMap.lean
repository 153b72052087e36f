/- Maps whose keys are ints, block by block: what a store, a look, a delete leaves. -/
import Derived.WalkKit
import Derived.MapKept
import Derived.RangeFuncRecord
import Derived.ChangeMaps4
namespace Go.Proofs.YtjgehecnamadcaaDoor.KaMap
set_option linter.unusedVariables false
set_option linter.unusedSimpArgs false
open Go.RowKit
open Go.MapKept (Stamped IsKey)
variable {P : Program} {w : World} {t K X b : Nat}
def ik (k : Int) : Value := .int .i64 k
/-- Block b is a map; its keys, as they came, are ks, its values vs. -/
def IsMap (w : World) (b : Nat) (ks : List Int) (vs : List Value) : Prop :=
  ∃ es clk, w.heap[b]? = some (.map es clk) ∧ Stamped es clk ∧ es.toList.map (·.key) = ks.map ik ∧ es.toList.map (·.val) = vs
def IsSet (w : World) (b : Nat) (ks : List Int) : Prop := IsMap w b ks (ks.map fun _ => .bool true)

theorem find_none {k : Int} : ∀ {l : List MapEntry} {ks : List Int} {i : Nat}, l.map (·.key) = ks.map ik → k ∉ ks → Instr.findNow (.int .i64) (ik k) l i = some none
  | [], _, _, _, _ => rfl
  | e :: l, [], _, h, _ => by simp at h
  | e :: l, x :: ks, i, h, hk => by
    simp only [List.map_cons, List.cons.injEq] at h
    have hne : ¬ k = x := fun e => hk (by simp [e])
    simp only [Instr.findNow, h.1, ik, Instr.sameNow, if_true]
    rw [show (k == x) = false by simpa using hne]
    exact find_none h.2 (fun h => hk (List.mem_cons_of_mem _ h))
theorem find_some {k : Int} {v : Value} : ∀ {l : List MapEntry} {ks : List Int} {vs : List Value} {i j : Nat}, l.map (·.key) = ks.map ik → l.map (·.val) = vs → ks.Nodup → ks[j]? = some k → vs[j]? = some v → Instr.findNow (.int .i64) (ik k) l i = some (some (i + j, v))
  | [], ks, vs, i, j, h, _, _, hk, _ => by
    have : ks = [] := by simpa using h.symm
    subst this
    simp at hk
  | e :: l, [], _, _, _, h, _, _, _, _ => by simp at h
  | e :: l, x :: ks, [], _, _, _, h, _, _, _ => by simp at h
  | e :: l, x :: ks, u :: vs, i, j, h, h2, hn, hk, hv => by
    simp only [List.map_cons, List.cons.injEq] at h h2
    obtain ⟨hx, hn⟩ := List.nodup_cons.1 hn
    cases j with
    | zero =>
      obtain rfl : x = k := by simpa using hk
      obtain rfl : u = v := by simpa using hv
      simp only [Instr.findNow, h.1, ik, Instr.sameNow, if_true, beq_self_eq_true]
      rw [h2.1]
      rfl
    | succ j =>
      have hk' : ks[j]? = some k := by simpa using hk
      have hv' : vs[j]? = some v := by simpa using hv
      have hne : ¬ k = x := fun e => hx (by rw [← e]; exact List.mem_of_getElem? hk')
      simp only [Instr.findNow, h.1, ik, Instr.sameNow, if_true]
      rw [show (k == x) = false by simpa using hne]
      exact (find_some (i := i + 1) h.2 h2.2 hn hk' hv').trans (by rw [show i + 1 + j = i + (j + 1) by omega])
theorem nodup_keys {es : Array MapEntry} {clk : Nat} {ks : List Int} (hs : Stamped es clk) (hk : es.toList.map (·.key) = ks.map ik) : ks.Nodup := by
  have := hs.2.2
  rw [hk] at this
  exact (List.pairwise_map.1 this).imp fun h e => h (by rw [e])
theorem isKey (k : Int) : IsKey (.int .i64) (ik k) := by simp [IsKey, ik]

theorem IsMap.lt {ks : List Int} {vs : List Value} (h : IsMap w b ks vs) : b < w.heap.size := by
  obtain ⟨es, clk, hb, _⟩ := h
  exact (Array.getElem?_eq_some_iff.1 hb).1
theorem IsMap.move {w' : World} {ks : List Int} {vs : List Value} (h : IsMap w b ks vs) (hm : w'.heap[b]? = w.heap[b]?) : IsMap w' b ks vs := by
  obtain ⟨es, clk, hb, r⟩ := h
  exact ⟨es, clk, hm.trans hb, r⟩
theorem IsMap.nodup {ks : List Int} {vs : List Value} (h : IsMap w b ks vs) : ks.Nodup := by
  obtain ⟨es, clk, hb, hs, hk, _⟩ := h
  exact nodup_keys hs hk
theorem IsMap.len {ks : List Int} {vs : List Value} (h : IsMap w b ks vs) : ks.length = vs.length := by
  obtain ⟨es, clk, hb, hs, hk, hv⟩ := h
  have h1 := congrArg List.length hk
  have h2 := congrArg List.length hv
  simp at h1 h2
  omega
theorem made (w : World) : IsMap (w.alloc (.map #[] 0)) w.heap.size [] [] := ⟨#[], 0, (MapKept.heap_alloc w _).1, ⟨by simp, by simp, by simp⟩, rfl, rfl⟩

/-- The world with another object at one place. -/
theorem put_same {o : Obj} (h : b < w.heap.size) : (w.putObj b o).heap[b]? = some o := World.putObj_heap_same h
theorem put_other {o : Obj} {i : Nat} (h : i ≠ b) : (w.putObj b o).heap[i]? = w.heap[i]? := World.putObj_heap_other h
theorem put_size {o : Obj} : (w.putObj b o).heap.size = w.heap.size := by simp [World.putObj]

/-- A look at a key that is there. -/
theorem look_hit {ks : List Int} {vs : List Value} {k : Int} {v : Value} {j : Nat} (ht : P.underlying t = some (.map K X)) (hd : P.underlying K = some (.int .i64)) (h : IsMap w b ks vs) (hk : ks[j]? = some k) (hv : vs[j]? = some v) :
    (Instr.lookup t (.map (some b)) (.int .i64 k) false).run P w = .ok v w := by
  obtain ⟨es, clk, hb, hs, he, hv'⟩ := h
  have hf := find_some (i := 0) he hv' (nodup_keys hs he) hk hv
  simp [Instr.lookup, run_underlying ht, MapKept.run_getObj_map hb, MapKept.run_checkKey hd (isKey k), show Value.int .i64 k = ik k from rfl, MapKept.run_findKey hd hf, Result.andThen]
/-- A look at a key that isn't there: the element type's zero value. -/
theorem look_miss {ks : List Int} {vs : List Value} {k : Int} {z : Value} (ht : P.underlying t = some (.map K X)) (hd : P.underlying K = some (.int .i64)) (hz : ∀ w, (zeroValue X).run P w = .ok z w) (h : IsMap w b ks vs) (hk : k ∉ ks) :
    (Instr.lookup t (.map (some b)) (.int .i64 k) false).run P w = .ok z w := by
  obtain ⟨es, clk, hb, hs, he, hv'⟩ := h
  have hf := find_none (i := 0) he hk
  simp [Instr.lookup, run_underlying ht, MapKept.run_getObj_map hb, MapKept.run_checkKey hd (isKey k), show Value.int .i64 k = ik k from rfl, MapKept.run_findKey hd hf, hz, Result.andThen]
/-- A store at a new key. -/
theorem put_new {ks : List Int} {vs : List Value} {k : Int} (v : Value) (ht : P.underlying t = some (.map K X)) (hd : P.underlying K = some (.int .i64)) (h : IsMap w b ks vs) (hk : k ∉ ks) :
    ∃ o, (Instr.mapUpdate t (.map (some b)) (.int .i64 k) v).run P w = .ok () (w.putObj b o) ∧ IsMap (w.putObj b o) b (ks ++ [k]) (vs ++ [v]) := by
  have hlt := h.lt
  obtain ⟨es, clk, hb, hs, he, hv'⟩ := h
  have hf := find_none (i := 0) he hk
  refine ⟨.map (es.push { key := ik k, val := v, born := clk }) (clk + 1), ?_, _, _, put_same hlt, ⟨?_, ?_, ?_⟩, ?_, ?_⟩
  · simp [Instr.mapUpdate, run_underlying ht, MapKept.run_getObj_map hb, MapKept.run_checkKey hd (isKey k), show Value.int .i64 k = ik k from rfl, MapKept.run_findKey hd hf, MapKept.run_setObj_map _ hb, Result.andThen, World.putObj]
  · intro x hx
    simp at hx
    rcases hx with hx | rfl
    · have := hs.1 x (by simpa using hx); omega
    · simp
  · simp only [Array.toList_push, List.map_append, List.map_cons, List.map_nil]
    refine List.nodup_append.2 ⟨hs.2.1, by simp, fun x hx y hy => ?_⟩
    obtain ⟨e, h1, rfl⟩ := List.mem_map.1 hx
    obtain rfl : y = clk := by simpa using hy
    have := hs.1 e h1
    omega
  · simp only [Array.toList_push, List.map_append, List.map_cons, List.map_nil]
    refine List.nodup_append.2 ⟨hs.2.2, by simp, fun x hx y hy => ?_⟩
    rw [he] at hx
    obtain ⟨e, h1, rfl⟩ := List.mem_map.1 hx
    obtain rfl : y = ik k := by simpa using hy
    intro h2
    have : e = k := by simpa [ik] using h2
    exact hk (this ▸ h1)
  · simp [he]
  · simp [hv']
/-- A store at a key that is there. -/
theorem put_old {ks : List Int} {vs : List Value} {k : Int} {j : Nat} (v : Value) (ht : P.underlying t = some (.map K X)) (hd : P.underlying K = some (.int .i64)) (h : IsMap w b ks vs) (hk : ks[j]? = some k) :
    ∃ o, (Instr.mapUpdate t (.map (some b)) (.int .i64 k) v).run P w = .ok () (w.putObj b o) ∧ IsMap (w.putObj b o) b ks (vs.set j v) := by
  have hlt := h.lt
  have hlen := h.len
  obtain ⟨es, clk, hb, hs, he, hv'⟩ := h
  have hj : j < ks.length := (List.getElem?_eq_some_iff.1 hk).1
  obtain ⟨u, hu⟩ : ∃ u, vs[j]? = some u := ⟨vs[j]'(by omega), List.getElem?_eq_getElem _⟩
  have hf := find_some (i := 0) he hv' (nodup_keys hs he) hk hu
  have hje : j < es.size := by have := congrArg List.length he; simp at this; omega
  have hkey : es[j].key = ik k := by
    have h1 := congrArg (fun l => l[j]?) he
    simp only [List.getElem?_map, hk, Option.map_some] at h1
    simpa [hje] using h1
  have hmap : (es.modify j fun e => { e with key := ik k, val := v }).toList = es.toList.set j { es[j] with key := ik k, val := v } := by
    apply List.ext_getElem?
    intro i
    rw [Array.getElem?_toList, Array.getElem?_modify, List.getElem?_set, Array.getElem?_toList]
    by_cases e : j = i
    · subst e; simp [hje]
    · simp [e]
  refine ⟨.map (es.modify j fun e => { e with key := ik k, val := v }) clk, ?_, _, _, put_same hlt, ⟨?_, ?_, ?_⟩, ?_, ?_⟩
  · have hfn : Instr.findNow (.int .i64) (ik k) es.toList 0 = some (some (j, u)) := by simpa using hf
    simp [Instr.mapUpdate, run_underlying ht, MapKept.run_getObj_map hb, MapKept.run_checkKey hd (isKey k), show Value.int .i64 k = ik k from rfl, MapKept.run_findKey hd hfn, MapKept.run_setObj_map _ hb, Result.andThen, World.putObj, hje, hkey, Instr.keyThatStays, show Instr.sameBits 10000 (ik k) (ik k) = true by simp [ik, Instr.sameBits]]
  · intro x hx
    rw [hmap] at hx
    rcases List.mem_or_eq_of_mem_set hx with hx | rfl
    · exact hs.1 x hx
    · exact hs.1 es[j] (by simp)
  · rw [hmap, List.map_set]
    have : (es.toList.map (·.born)).set j es[j].born = es.toList.map (·.born) := by
      apply List.ext_getElem?
      intro i
      rw [List.getElem?_set]
      by_cases e : j = i
      · subst e; simp [hje]
      · simp [e]
    show ((es.toList.map (·.born)).set j es[j].born).Nodup
    rw [this]; exact hs.2.1
  · rw [hmap, List.map_set]
    have : (es.toList.map (·.key)).set j (ik k) = es.toList.map (·.key) := by
      apply List.ext_getElem?
      intro i
      rw [List.getElem?_set]
      by_cases e : j = i
      · subst e; simp [hje, hkey]
      · simp [e]
    show ((es.toList.map (·.key)).set j (ik k)).Nodup
    rw [this]; exact hs.2.2
  · rw [hmap, List.map_set]
    show (es.toList.map (·.key)).set j (ik k) = _
    rw [he]
    apply List.ext_getElem?
    intro i
    rw [List.getElem?_set]
    by_cases e : j = i
    · subst e; simp [hj, (List.getElem?_eq_some_iff.1 hk).2]
    · simp [e]
  · rw [hmap, List.map_set]
    show (es.toList.map (·.val)).set j v = _
    rw [hv']
theorem erase_filter {k : Int} : ∀ {ks : List Int} {j : Nat}, ks.Nodup → ks[j]? = some k → ks.eraseIdx j = ks.filter (fun x => decide (x ≠ k))
  | [], j, _, h => by simp at h
  | x :: ks, 0, hn, h => by
    obtain rfl : x = k := by simpa using h
    obtain ⟨hx, hn⟩ := List.nodup_cons.1 hn
    rw [List.eraseIdx_cons_zero, List.filter_cons_of_neg (by simp)]
    exact (List.filter_eq_self.2 (fun y hy => by simpa using fun e => hx (by rw [← e]; exact hy))).symm
  | x :: ks, j + 1, hn, h => by
    obtain ⟨hx, hn⟩ := List.nodup_cons.1 hn
    have h' : ks[j]? = some k := by simpa using h
    have hne : x ≠ k := fun e => hx (by rw [e]; exact List.mem_of_getElem? h')
    rw [List.eraseIdx_cons_succ, List.filter_cons_of_pos (by simpa using hne), erase_filter hn h']
/-- A key goes out of a set. -/
theorem del {ks : List Int} {k : Int} (ty : TypeId) (ht : P.underlying t = some (.map K X)) (hd : P.underlying K = some (.int .i64)) (h : IsSet w b ks) :
    ∃ o, (Builtin.delete_ #[t, K] ty #[.map (some b), .int .i64 k]).run P w = .ok (.tuple #[]) (w.putObj b o) ∧ IsSet (w.putObj b o) b (ks.filter (fun x => decide (x ≠ k))) := by
  have hlt := IsMap.lt h
  have hnd := IsMap.nodup h
  obtain ⟨es, clk, hb, hs, he, hv⟩ := h
  by_cases hk : k ∈ ks
  · obtain ⟨j, hj, e⟩ := List.mem_iff_getElem.1 hk
    have hkj : ks[j]? = some k := by rw [← e]; exact List.getElem?_eq_getElem hj
    have hf := find_some (i := 0) he hv (nodup_keys hs he) hkj (show (ks.map fun _ => Value.bool true)[j]? = some (.bool true) by simp [hj])
    have hfn : Instr.findNow (.int .i64) (ik k) es.toList 0 = some (some (j, .bool true)) := by simpa using hf
    have hje : j < es.size := by have := congrArg List.length he; simp at this; omega
    have hl : (es.eraseIdxIfInBounds j).toList = es.toList.eraseIdx j := by simp [Array.eraseIdxIfInBounds, hje]
    refine ⟨.map (es.eraseIdxIfInBounds j) clk, ?_, _, _, put_same hlt, ⟨?_, ?_, ?_⟩, ?_, ?_⟩
    · simp [Builtin.delete_, run_underlying ht, MapKept.run_getObj_map hb, MapKept.run_checkKey hd (isKey k), show Value.int .i64 k = ik k from rfl, MapKept.run_findKey hd hfn, MapKept.run_setObj_map _ hb, Result.andThen, World.putObj]
    · intro x hx
      rw [hl] at hx
      exact hs.1 x ((List.eraseIdx_sublist _ _).mem hx)
    · rw [hl]
      exact (hs.2.1).sublist ((List.eraseIdx_sublist _ _).map _)
    · rw [hl]
      exact (hs.2.2).sublist ((List.eraseIdx_sublist _ _).map _)
    · rw [hl, ChangeMaps.map_eraseIdx, he, ← ChangeMaps.map_eraseIdx, erase_filter hnd hkj]
    · rw [hl, ChangeMaps.map_eraseIdx, hv, ← ChangeMaps.map_eraseIdx, erase_filter hnd hkj]
  · have hf := find_none (i := 0) he hk
    have e : ks.filter (fun x => decide (x ≠ k)) = ks := List.filter_eq_self.2 (fun y hy => by simpa using fun e => hk (by rw [← e]; exact hy))
    refine ⟨.map es clk, ?_, _, _, put_same hlt, hs, by rw [he, e], by rw [hv, e]⟩
    simp [Builtin.delete_, run_underlying ht, MapKept.run_getObj_map hb, MapKept.run_checkKey hd (isKey k), show Value.int .i64 k = ik k from rfl, MapKept.run_findKey hd hf, MapKept.run_setObj_map _ hb, Result.andThen, World.putObj]
end Go.Proofs.YtjgehecnamadcaaDoor.KaMap
