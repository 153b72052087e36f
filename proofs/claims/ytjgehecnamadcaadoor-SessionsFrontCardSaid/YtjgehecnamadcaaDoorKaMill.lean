/- What the makers of small cases (kauditmill) give, as plain functions: numbers in range, and a place that moves on. -/
import Derived.Test.YtjgehecnamadcaaDoorQx4
import Derived.Test.YtjgehecnamadcaaDoorQx1
namespace Go.Proofs.YtjgehecnamadcaaDoor.Q
open Go.RowKit Go.Proofs.YtjgehecnamadcaaDoorW.PrintWords
set_option linter.unusedVariables false
set_option linter.unusedSimpArgs false

theorem w64 {x : Int} (h0 : -9223372036854775808 ≤ x) (h1 : x ≤ 9223372036854775807) : wrap64 x = x := by
  unfold wrap64
  omega
theorem rd_mem {l : List Int} {i : Int} (h0 : 0 ≤ i) (h1 : i < l.length) : rd l i ∈ l := by
  unfold rd
  rw [List.getD_eq_getElem?_getD, List.getElem?_eq_getElem (by omega)]
  exact List.getElem_mem _

/-- Numbers, and the place of the next one. -/
def Ok (cs : List Int) (a : Int) : Prop := 0 ≤ a ∧ a ≤ cs.length ∧ cs.length ≤ 100000 ∧ ∀ x ∈ cs, 0 ≤ x ∧ x ≤ 255

theorem new_ok (l : List Int) (n : Int) (h0 : 0 ≤ n) (h1 : n ≤ 100000) (hl : ∀ x ∈ l, 0 ≤ x ∧ x ≤ 255) : ∃ cs, kauditmill_New.f l n = some (cs, 0) ∧ Ok cs 0 := by
  unfold kauditmill_New.f
  by_cases h : (l.length : Int) > n
  · rw [if_pos h, if_pos h0, if_pos (by omega)]
    refine ⟨_, rfl, Int.le_refl _, by omega, ?_, fun x hx => hl x (List.mem_of_mem_take hx)⟩
    rw [List.length_take]
    omega
  · rw [if_neg h]
    exact ⟨_, rfl, Int.le_refl _, by omega, by omega, hl⟩

theorem int_ok {cs : List Int} {a : Int} (h : Ok cs a) (n : Int) : ∃ r b, kauditmill_Case_Int.f cs a n = some (r, b) ∧ 0 ≤ r ∧ (r = 0 ∨ r < n) ∧ r ≤ 255 ∧ Ok cs b := by
  obtain ⟨h0, h1, h2, h3⟩ := h
  unfold kauditmill_Case_Int.f
  by_cases hn : n < 2
  · rw [if_pos hn]
    exact ⟨0, a, rfl, by omega, .inl rfl, by omega, h0, h1, h2, h3⟩
  rw [if_neg hn]
  by_cases ha : a ≥ (cs.length : Int)
  · rw [if_pos ha]
    exact ⟨0, a, rfl, by omega, .inl rfl, by omega, h0, h1, h2, h3⟩
  rw [if_neg ha, w64 (x := a + 1) (by omega) (by omega), show a + 1 - 1 = a by omega, w64 (x := a) (by omega) (by omega), if_pos h0, if_pos (by omega), if_neg (by omega)]
  have hm := h3 _ (rd_mem h0 (show a < (cs.length : Int) by omega))
  rw [w64 (by omega) (by omega)]
  refine ⟨_, _, rfl, Int.tmod_nonneg _ hm.1, .inr (Int.tmod_lt_of_pos _ (by omega)), ?_, by omega, by omega, h2, h3⟩
  have h5 : Int.tmod (rd cs a) n = rd cs a % n := Int.tmod_eq_emod_of_nonneg hm.1
  have h6 := Int.mul_ediv_add_emod (rd cs a) n
  have h7 : 0 ≤ n * (rd cs a / n) := Int.mul_nonneg (by omega) (Int.ediv_nonneg hm.1 (by omega))
  omega
theorem wf_u8 {x : Int} (h : (Lit.int .u8 x).wf = true) : 0 ≤ x ∧ x ≤ 255 := by
  simp only [Lit.wf, Bool.and_eq_true, decide_eq_true_eq] at h
  exact ⟨h.1, h.2⟩
end Go.Proofs.YtjgehecnamadcaaDoor.Q
