/- slices.Clone, slices.Sort and slices.Compact at []int over rows of the call's own: what they leave, in the words 'ownsRow' and 'grownBy'. -/
import Derived.Test.YtkhdejefolegpaaDoorKaShelf
import Derived.WalkKit
import Derived.Sort.OwnSortedInts
import Derived.Sort.Grow
import Derived.Lib.OwnBridge
import Derived.Lib.RowBridge
namespace Go.Proofs.YtkhdejefolegpaaDoor.KaSort
open Go.RowKit Go.Sort

def sorted (l : List Int) : List Int := l.mergeSort fun x y => decide (x ≤ y)
theorem sorted_length (l : List Int) : (sorted l).length = l.length := List.length_mergeSort l

theorem sort_own {w : World} {base g cap : Nat} {l : List Int} (h : w.ownsRow base 3 1 (.slice (some ⟨g, 0, none⟩) l.length cap) l.length (l.map (Value.int .i64))) (hn : l.length < 4611686018427387904) :
    Calls Tryd.prog 17 #[.slice (some ⟨g, 0, none⟩) l.length cap] w fun e w' => e = .returned (.tuple #[]) ∧
      w'.ownsRow base 3 1 (.slice (some ⟨g, 0, none⟩) l.length cap) l.length ((sorted l).map (Value.int .i64)) ∧ w.grownBy w' (some g) := by
  obtain ⟨g', cap', e', hb, hlt, h1, h2, h3, hH⟩ := Lib.holds_of_ownsRow h (by simp)
  obtain ⟨hgg, hcc⟩ : g = g' ∧ cap = cap' := by simpa using e'
  subst hgg; subst hcc
  refine (Tryd.slices_Sort_int g 0 cap l w hH hlt hn).mono ?_
  rintro e w' ⟨rfl, n, os, rfl⟩
  refine ⟨rfl, ?_, grownBy_sortedI _⟩
  rcases h.2 with ⟨h0, _⟩ | ⟨g2, cap2, cur, hv, hbase, hheap, q1, q2, q3, _⟩
  · simp at h0
  · obtain ⟨hgg, hcc⟩ : g = g2 ∧ cap = cap2 := by simpa using hv
    subst hgg; subst hcc
    exact ownsRow_sortedI (ss := l) (sorted_length l) hbase hheap q1 q2 q3

theorem compact_own {w : World} {base g cap : Nat} {l : List Int} (h : w.ownsRow base 3 1 (.slice (some ⟨g, 0, none⟩) l.length cap) l.length (l.map (Value.int .i64))) :
    Calls Tryd.prog 18 #[.slice (some ⟨g, 0, none⟩) l.length cap] w fun e w' => e = .returned (.slice (some ⟨g, 0, none⟩) (Lib.compact l).length cap) ∧
      w'.ownsRow base 3 1 (.slice (some ⟨g, 0, none⟩) (Lib.compact l).length cap) (Lib.compact l).length ((Lib.compact l).map (Value.int .i64)) ∧ w.grownBy w' (some g) := by
  obtain ⟨g', cap', e', hb, hlt, h1, h2, h3, hH⟩ := Lib.holds_of_ownsRow h (by simp)
  obtain ⟨hgg, hcc⟩ : g = g' ∧ cap = cap' := by simpa using e'
  subst hgg; subst hcc
  have hm : cap ≤ 9223372036854775807 := by simpa [maxLen] using h2
  refine (Tryd.slices_Compact_int g 0 cap l w hH (by omega) h1).mono ?_
  rintro e w' ⟨rfl, q, rfl⟩
  have hle := Lib.compact_length_le l
  have hc := Lib.ownsRow_putRow (q := q) (k := (Lib.compact l).length) (ys := Lib.compact l ++ List.replicate (l.length - (Lib.compact l).length) 0) h (by simp; omega) hle
  rw [List.take_left] at hc
  refine ⟨rfl, hc, rfl, rfl, rfl, by simp [putRow, mapBlock, Sort.ahead], fun k hk hne => ?_⟩
  have : g ≠ k := fun e => hne (by rw [e])
  simp [putRow, mapBlock, Sort.ahead, Array.getElem?_modify, this]

end Go.Proofs.YtkhdejefolegpaaDoor.KaSort
