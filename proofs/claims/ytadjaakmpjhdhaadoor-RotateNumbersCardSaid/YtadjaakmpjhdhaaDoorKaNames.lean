/- Names of files, packed and not: sizes, both functions the same. -/
import Derived.Test.YtadjaakmpjhdhaaDoorKaNumber
namespace Go.Proofs.YtadjaakmpjhdhaaDoor.Q
open Go.RowKit Go.Proofs.YtadjaakmpjhdhaaDoorW.PrintWords
set_option linter.unusedVariables false
set_option linter.unusedSimpArgs false

theorem nmB_size (n : Int) : (nmB n).size ≤ 8 := by
  by_cases h : 1 ≤ n ∧ n ≤ 1000
  · obtain ⟨u, rfl⟩ := Int.eq_ofNat_of_zero_le (show 0 ≤ n by omega)
    rw [nmB_nm4 (by omega) (by omega)]
    exact Nat.le_refl _
  · rw [nmB_out (by omega)]
    exact Nat.zero_le _
def pkB (n : Int) : ByteArray := if (nmB n).toList = [] then ⟨#[]⟩ else nmB n ++ (⟨#[46, 122]⟩ : ByteArray)
theorem pkB_size (n : Int) : (pkB n).size ≤ 10 := by
  have := nmB_size n
  unfold pkB
  split
  · exact Nat.zero_le _
  · rw [ByteArray.size_append]; exact Nat.add_le_add this (Nat.le_refl _)
theorem packed_f (n : Int) : rotate_Packed.f n = some (pkB n) := by
  have := nmB_size n
  unfold rotate_Packed.f rotate_Name.f pkB
  rw [Option.bind_some]
  split
  · rfl
  · rw [if_pos (by omega)]
theorem refpacked_ev (n : Int) : Ev (fun k => kauditref26_Packed.f k n) (pkB n) := by
  have := nmB_size n
  refine Ev.congr (fun k => by rw [kauditref26_Packed.f]) (Ev.bind (refname_ev n) ?_)
  by_cases h : (nmB n).toList = []
  · rw [show pkB n = ⟨#[]⟩ from if_pos h]
    exact Ev.pos h (Ev.now _)
  · rw [show pkB n = nmB n ++ (⟨#[46, 122]⟩ : ByteArray) from if_neg h]
    exact Ev.neg h (Ev.pos (by omega) (Ev.now _))
theorem rdOf_mem {l : List ByteArray} {i : Nat} (h : i < l.length) : rdOf ByteArray.empty l (i : Int) ∈ l := by
  unfold rdOf
  rw [List.getD_eq_getElem?_getD, List.getElem?_eq_getElem (by omega)]
  exact List.getElem_mem _
end Go.Proofs.YtadjaakmpjhdhaaDoor.Q
