/- The pure statement of RotateKeeps. -/
import Derived.Test.YtadjaakmpjhdhaaDoorQx5
import Derived.Test.YtadjaakmpjhdhaaDoorKaDrop
namespace Go.Proofs.YtadjaakmpjhdhaaDoor.Q.PRotateKeeps
open Go.RowKit Go.Proofs.YtadjaakmpjhdhaaDoorW.PrintWords
set_option linter.unusedVariables false
set_option linter.unusedSimpArgs false

theorem take_loop (l : List Int) (n : Nat) (hn : n ≤ l.length) (hl : l.length < 1000) : ∀ (d i : Nat), n - i = d → i ≤ n →
    Ev (fun k => kauditlaw26_RotateKeeps.l1 k l (l.take n) (n : Int) (i : Int)) true
  | 0, i, hd, hi => by
    refine Ev.step (fun k => by rw [kauditlaw26_RotateKeeps.l1]) (Ev.neg (by omega) (Ev.bind begun_ev (Ev.now _)))
  | d + 1, i, hd, hi => by
    have hw : wrap64 ((i : Int) + 1) = ((i + 1 : Nat) : Int) := by rw [w64 (by omega) (by omega)]; omega
    have hr : rd (l.take n) (i : Int) = rd l (i : Int) := by
      simp [rd, List.getD_eq_getElem?_getD, List.getElem?_take, show i < n by omega]
    refine Ev.step (fun k => by rw [kauditlaw26_RotateKeeps.l1]) (Ev.pos (by omega) (Ev.pos (by omega) (Ev.pos (by simp; omega) (Ev.pos (by omega) (Ev.pos hr ?_)))))
    rw [hw]
    exact take_loop l n hn hl d (i + 1) (by omega) (by omega)
theorem loop (a b : Int) (hv : vld a b 1 = true) : ∀ (n : Nat) (cs : List Int) (p : Int) (l : List Int), Ok cs p → l.length + n < 1000 → Asc l →
    Ev (fun k => kauditlaw26_RotateKeeps.l0 k l (n : Int) cs p a b 1) true
  | 0, cs, p, l, h, hn, ha => by
    have hv' := vld_iff.1 hv
    refine Ev.step (fun k => by rw [kauditlaw26_RotateKeeps.l0]) (Ev.neg (by omega) ?_)
    refine Ev.bind (drop_ev a b 1 l (by omega)) ?_
    rw [dropS_yes l hv rfl, uniq_asc ha]
    have hn' : (l.length + 1 - b : Int).toNat ≤ l.length := by omega
    have hlen : (l.take (l.length + 1 - b : Int).toNat).length = (l.length + 1 - b : Int).toNat := by simp; omega
    rw [hlen]
    have hw1 : wrap64 ((l.length : Int) - ((l.length + 1 - b : Int).toNat : Int)) = (l.length : Int) - ((l.length + 1 - b : Int).toNat : Int) := w64 (by omega) (by omega)
    have hw2 : wrap64 ((l.length : Int) - ((l.length + 1 - b : Int).toNat : Int) + 1) = (l.length : Int) - ((l.length + 1 - b : Int).toNat : Int) + 1 := w64 (by omega) (by omega)
    rw [hw1, hw2]
    refine Ev.neg (by omega) (Ev.neg (by omega) ?_)
    have hrest : Ev (fun k => kauditlaw26_RotateKeeps.j1 k l (l.take (l.length + 1 - b : Int).toNat) false) true := by
      refine Ev.step (fun k => by rw [kauditlaw26_RotateKeeps.j1]) (Ev.neg (by simp) ?_)
      rw [hlen]
      exact take_loop l _ hn' (by omega) _ 0 rfl (by omega)
    by_cases h0 : ((l.length + 1 - b : Int).toNat : Int) > 0
    · refine Ev.pos h0 ?_
      rw [show ((l.length : Int) - ((l.length + 1 - b : Int).toNat : Int) + 1 != b) = false from by simp; omega]
      exact hrest
    · exact Ev.neg h0 hrest
  | n + 1, cs, p, l, h, hn, ha => by
    obtain ⟨r, p2, e, h0, hr, hr2, hp⟩ := int_ok h 200
    refine Ev.step (fun k => by rw [kauditlaw26_RotateKeeps.l0]) (Ev.pos (by omega) ?_)
    refine Ev.congr (fun k => by rw [e, Option.bind_some]) (Ev.bind (add_ev _ l (by omega)) ?_)
    have hw : wrap64 (((n + 1 : Nat) : Int) - 1) = (n : Int) := by rw [w64 (by omega) (by omega)]; omega
    rw [hw]
    have hl := addR_len (wrap64 (1 + r)) l
    exact loop a b hv n cs p2 _ hp (by dsimp only; omega) (addR_asc _ ha)

theorem pure : ∀ (x0 : List Int), ((x0).length * 1 ≤ 140737488351232 ∧ ∀ a ∈ (x0), (Lit.int .u8 a).wf = true) → ∃ k, kauditlaw26_RotateKeeps.f k x0 = some true := by
  intro x2 h2
  obtain ⟨cs, e, hok⟩ := new_ok x2 60 (by omega) (by omega) (fun x hx => wf_u8 (h2.2 x hx))
  obtain ⟨m, q, d, p, e1, m0, m1, q0, q1, _, _, hp1⟩ := rotation_ok hok
  obtain ⟨r, p2, e2, h0, hr, hr2, hp⟩ := int_ok hp1 14
  have h := loop m q (vld_iff.2 (by omega)) r.toNat cs p2 [] hp (by simp; omega) (by simp [Asc])
  rw [Int.toNat_of_nonneg h0] at h
  obtain ⟨K, hK⟩ := h
  refine ⟨K, ?_⟩
  rw [kauditlaw26_RotateKeeps.f, e, Option.bind_some, e1, Option.bind_some, e2, Option.bind_some]
  exact hK K (Nat.le_refl _)
end Go.Proofs.YtadjaakmpjhdhaaDoor.Q.PRotateKeeps
