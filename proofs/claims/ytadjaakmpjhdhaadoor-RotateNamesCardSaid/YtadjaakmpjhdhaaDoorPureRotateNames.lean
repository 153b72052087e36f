/- The pure statement of RotateNames. -/
import Derived.Test.YtadjaakmpjhdhaaDoorQx6
import Derived.Test.YtadjaakmpjhdhaaDoorKaDrop
import Derived.Test.YtadjaakmpjhdhaaDoorKaNames
namespace Go.Proofs.YtadjaakmpjhdhaaDoor.Q.PRotateNames
open Go.RowKit Go.Proofs.YtadjaakmpjhdhaaDoorW.PrintWords
set_option linter.unusedVariables false
set_option linter.unusedSimpArgs false

theorem loop (x0 x9 : Int) (y : List ByteArray) (hy : y.length < 1000) (hs : ∀ s ∈ y, s.size < 9223372036854775807) : ∀ (d i : Nat), y.length - i = d → i ≤ y.length →
    Ev (fun k => kauditlaw26_RotateNames.l0 k x0 x9 y (y.length : Int) (i : Int)) true
  | 0, i, hd, hi => by
    refine Ev.step (fun k => by rw [kauditlaw26_RotateNames.l0]) (Ev.neg (by omega) ?_)
    refine Ev.congr (fun k => by rw [rotate_Name.f, Option.bind_some]) (Ev.bind (refname_ev x0) (Ev.pos rfl ?_))
    refine Ev.congr (fun k => by rw [packed_f x0, Option.bind_some]) (Ev.bind (refpacked_ev x0) (Ev.pos rfl ?_))
    refine Ev.congr (fun k => by rw [rotate_Name.f, Option.bind_some]) (Ev.bind (refname_ev x9) (Ev.pos rfl ?_))
    refine Ev.congr (fun k => by rw [packed_f x9, Option.bind_some]) (Ev.bind (refpacked_ev x9) (Ev.pos rfl ?_))
    exact Ev.bind begun_ev (Ev.now _)
  | d + 1, i, hd, hi => by
    have hlt : i < y.length := by omega
    have hw : wrap64 ((i : Int) + 1) = ((i + 1 : Nat) : Int) := by rw [w64 (by omega) (by omega)]; omega
    obtain ⟨r, e1, e2⟩ := num_ev (rdOf ByteArray.empty y (i : Int)) (hs _ (rdOf_mem hlt))
    refine Ev.step (fun k => by rw [kauditlaw26_RotateNames.l0]) (Ev.pos (by omega) (Ev.pos (by omega) (Ev.pos (by omega) ?_)))
    refine Ev.bind e1 (Ev.bind e2 (Ev.pos rfl (Ev.neg (by simp) (Ev.neg (by simp) ?_))))
    rw [hw]
    exact loop x0 x9 y hy hs d (i + 1) (by omega) (by omega)
theorem pure : ∀ (x0 : Int) (x1 : Int) (x2 : ByteArray) (x3 : ByteArray), (Lit.int .i64 x0).wf = true → (Lit.int .u16 x1).wf = true → x2.size ≤ 140737488351232 → x3.size ≤ 140737488351232 → ∃ k, kauditlaw26_RotateNames.f k x0 x1 x2 x3 = some true := by
  intro x0 x1 x2 x3 _ _ h2 h3
  generalize hq : Int.tmod (wrap64 (x1)) 1003 = q
  have a1 := nmB_size q
  have a2 := pkB_size q
  have h4 : (⟨#[108, 111, 103, 45]⟩ : ByteArray).size = 4 := rfl
  have hl := loop x0 q [x2, nmB q, pkB q, nmB q ++ x3, (⟨#[108, 111, 103, 45]⟩ : ByteArray) ++ x3] (by simp) (fun s hs => by
    simp only [List.mem_cons, List.not_mem_nil, or_false] at hs
    rcases hs with rfl | rfl | rfl | rfl | rfl
    · omega
    · omega
    · omega
    · rw [ByteArray.size_append]; omega
    · rw [ByteArray.size_append, h4]; omega) _ 0 rfl (by omega)
  have h : Ev (fun k => kauditlaw26_RotateNames.f k x0 x1 x2 x3) true := by
    refine Ev.congr (fun k => by rw [kauditlaw26_RotateNames.f, hq, rotate_Name.f, Option.bind_some, packed_f, Option.bind_some, Option.bind_some, if_pos (by omega), if_pos (by omega), Option.bind_some]; rfl) hl
  obtain ⟨K, hK⟩ := h
  exact ⟨K, hK K (Nat.le_refl _)⟩
end Go.Proofs.YtadjaakmpjhdhaaDoor.Q.PRotateNames
