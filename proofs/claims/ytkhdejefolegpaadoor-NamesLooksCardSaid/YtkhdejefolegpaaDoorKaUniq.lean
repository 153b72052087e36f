/- A list of numbers sorted, each once: strictly ascending, with the same members. -/
import Derived.Test.YtkhdejefolegpaaDoorKaSort
import Derived.Test.YtkhdejefolegpaaDoorKaAdd
namespace Go.Proofs.YtkhdejefolegpaaDoor.Q
open Go.RowKit Go.Proofs.YtkhdejefolegpaaDoorW.PrintWords
set_option linter.unusedVariables false
set_option linter.unusedSimpArgs false

def uniq (l : List Int) : List Int := Lib.compact (KaSort.sorted l)

theorem compact_asc {d : Array Int} (hs : ∀ i j, i ≤ j → j < d.size → d[i]! ≤ d[j]!) : ∀ m, m ≤ d.size → Asc (Lib.compactUpTo d m) ∧ ∀ x, x ∈ Lib.compactUpTo d m ↔ ∃ j, j < m ∧ d[j]! = x
  | 0, _ => by simp [Lib.compactUpTo, Asc]
  | m + 1, hm => by
    obtain ⟨h1, h2⟩ := compact_asc hs m (by omega)
    rw [Lib.compactUpTo_succ]
    by_cases hk : Lib.keeps d m = true
    · rw [if_pos hk]
      constructor
      · refine List.pairwise_append.2 ⟨h1, by simp, fun x hx y hy => ?_⟩
        obtain rfl : y = d[m]! := by simpa using hy
        obtain ⟨j, hj, rfl⟩ := (h2 x).1 hx
        have h3 := hs j (m - 1) (by omega) (by omega)
        have h4 := hs (m - 1) m (by omega) (by omega)
        have h5 : d[m]! ≠ d[m - 1]! := by
          unfold Lib.keeps at hk
          simp only [decide_eq_true_eq, ne_eq] at hk
          rcases hk with hk | hk
          · omega
          · simpa using hk
        omega
      · intro x
        rw [List.mem_append, h2]
        constructor
        · rintro (⟨j, hj, rfl⟩ | hx)
          · exact ⟨j, by omega, rfl⟩
          · exact ⟨m, by omega, (show x = d[m]! by simpa using hx).symm⟩
        · rintro ⟨j, hj, rfl⟩
          by_cases h : j = m
          · subst h; exact .inr (by simp)
          · exact .inl ⟨j, by omega, rfl⟩
    · rw [if_neg hk, List.append_nil]
      refine ⟨h1, fun x => ?_⟩
      rw [h2]
      constructor
      · rintro ⟨j, hj, rfl⟩; exact ⟨j, by omega, rfl⟩
      · rintro ⟨j, hj, rfl⟩
        by_cases h : j = m
        · subst h
          unfold Lib.keeps at hk
          simp only [decide_eq_true_eq, ne_eq, not_or] at hk
          exact ⟨j - 1, by omega, by have := hk.2; simp at this; exact this.symm⟩
        · exact ⟨j, by omega, rfl⟩

theorem sorted_pairwise (l : List Int) : (KaSort.sorted l).Pairwise (· ≤ ·) := by
  have := List.pairwise_mergeSort (le := fun x y : Int => decide (x ≤ y)) (fun a b c h1 h2 => by simp at *; omega) (fun a b => by simp; omega) l
  exact this.imp (fun h => by simpa using h)
theorem sorted_mem (l : List Int) (x : Int) : x ∈ KaSort.sorted l ↔ x ∈ l := List.mem_mergeSort
theorem uniq_spec (l : List Int) : Asc (uniq l) ∧ ∀ x, x ∈ uniq l ↔ x ∈ l := by
  have hp := sorted_pairwise l
  have h := compact_asc (d := (KaSort.sorted l).toArray) (fun i j hij hj => by
    have hj' : j < (KaSort.sorted l).length := by simpa using hj
    rw [getElem!_pos _ i (by simp; omega), getElem!_pos _ j hj]
    simp only [List.getElem_toArray]
    by_cases e : i = j
    · subst e; exact Int.le_refl _
    · exact List.pairwise_iff_getElem.1 hp i j (by omega) hj' (by omega)) (KaSort.sorted l).length (by simp)
  refine ⟨h.1, fun x => ?_⟩
  rw [← sorted_mem l x]
  show x ∈ Lib.compactUpTo (KaSort.sorted l).toArray (KaSort.sorted l).length ↔ _
  rw [h.2 x]
  constructor
  · rintro ⟨j, hj, rfl⟩
    rw [getElem!_pos _ j (by simpa using hj)]
    simp only [List.getElem_toArray]
    exact List.getElem_mem hj
  · intro hx
    obtain ⟨j, hj, rfl⟩ := List.mem_iff_getElem.1 hx
    exact ⟨j, hj, by rw [getElem!_pos _ j (by simpa using hj)]; simp⟩
theorem uniq_len (l : List Int) : (uniq l).length ≤ l.length := by
  have := Lib.compact_length_le (KaSort.sorted l)
  rw [KaSort.sorted_length] at this
  exact this
theorem uniq_asc {l : List Int} (h : Asc l) : uniq l = l := asc_ext (uniq_spec l).1 h (uniq_spec l).2

/-- Putting in one after the other is sorting, each once. -/
def addAll : List Int → List Int → List Int
  | acc, [] => acc
  | acc, x :: l => addAll (addR x false acc) l
theorem addAll_spec : ∀ (l acc : List Int), Asc acc → Asc (addAll acc l) ∧ (∀ x, x ∈ addAll acc l ↔ x ∈ acc ∨ x ∈ l) ∧ (addAll acc l).length ≤ acc.length + l.length
  | [], acc, h => ⟨h, fun x => by simp [addAll], by simp [addAll]⟩
  | y :: l, acc, h => by
    obtain ⟨h1, h2, h3⟩ := addAll_spec l (addR y false acc) (addR_asc y h)
    have := addR_len y acc
    refine ⟨h1, fun x => ?_, by simp only [addAll, List.length_cons]; omega⟩
    simp only [addAll]
    rw [h2 x, addR_mem, List.mem_cons]
    constructor
    · rintro ((h | h) | h)
      · exact .inr (.inl h)
      · exact .inl h
      · exact .inr (.inr h)
    · rintro (h | h | h)
      · exact .inl (.inr h)
      · exact .inl (.inl h)
      · exact .inr h
theorem addAll_uniq (l : List Int) : addAll [] l = uniq l := by
  obtain ⟨h1, h2, _⟩ := addAll_spec l [] (by simp [Asc])
  exact asc_ext h1 (uniq_spec l).1 (fun x => by rw [h2 x, (uniq_spec l).2 x]; simp)
end Go.Proofs.YtkhdejefolegpaaDoor.Q
