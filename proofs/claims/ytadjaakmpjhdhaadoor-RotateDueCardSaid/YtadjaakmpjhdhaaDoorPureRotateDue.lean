/- The pure statement of RotateDue. -/
import Derived.Test.YtadjaakmpjhdhaaDoorQx4
import Derived.Test.YtadjaakmpjhdhaaDoorKaWfRotateDue
import Derived.Test.YtadjaakmpjhdhaaDoorKaDrop
namespace Go.Proofs.YtadjaakmpjhdhaaDoor.Q.PRotateDue
open Go.RowKit Go.Proofs.YtadjaakmpjhdhaaDoorW.PrintWords
set_option linter.unusedVariables false
set_option linter.unusedSimpArgs false

def I64 (x : Int) : Prop := -9223372036854775808 ≤ x ∧ x ≤ 9223372036854775807
def dueS (a b c s m : Int) : Bool := if vld a b c = true ∧ c ≠ 3 then (if m > 0 then decide (s > a - m) else decide (s > 0 ∧ s + m > a)) else false
theorem dueS_no {a b c s m : Int} (h : ¬ (vld a b c = true ∧ c ≠ 3)) : dueS a b c s m = false := if_neg h
theorem dueS_pos {a b c s m : Int} (h : vld a b c = true) (hc : c ≠ 3) (h0 : m > 0) : dueS a b c s m = decide (s > a - m) := by unfold dueS; rw [if_pos ⟨h, hc⟩, if_pos h0]
theorem dueS_neg {a b c s m : Int} (h : vld a b c = true) (hc : c ≠ 3) (h0 : ¬ m > 0) : dueS a b c s m = decide (s > 0 ∧ s + m > a) := by unfold dueS; rw [if_pos ⟨h, hc⟩, if_neg h0]
theorem due_f (a b c s m : Int) (hs : I64 s) (hm : I64 m) : rotate_Due.f a b c s m = some (dueS a b c s m) := by
  unfold I64 at hs hm
  unfold rotate_Due.f dueS
  rw [rotate_valid, Option.bind_some]
  cases hv : vld a b c with
  | false => simp
  | true =>
    have hv' := vld_iff.1 hv
    by_cases hc : c = 3
    · simp [hc]
    · rw [if_pos rfl, if_neg hc, if_pos ⟨rfl, hc⟩]
      unfold rotate_exceeds.f
      by_cases h0 : m > 0
      · rw [if_pos h0, if_pos h0, w64 (by omega) (by omega), Option.bind_some]
      · rw [if_neg h0, if_neg h0]
        by_cases h1 : s > 0
        · rw [if_pos h1, w64 (by omega) (by omega), Option.bind_some]
          congr 1
          simp [h1]
        · rw [if_neg h1, Option.bind_some]
          simp [h1]
theorem refdue_ev (a b c s m : Int) (hs : I64 s) (hm : I64 m) : Ev (fun k => kauditref26_Due.f k a b c s m) (dueS a b c s m) := by
  unfold I64 at hs hm
  refine Ev.congr (fun k => by rw [kauditref26_Due.f, ref_valid, Option.bind_some]) ?_
  cases hv : vld a b c with
  | false =>
    rw [dueS_no (by simp [hv])]
    exact Ev.neg (by simp) (Ev.step (fun k => by rw [kauditref26_Due.j0]) (Ev.pos rfl (Ev.now _)))
  | true =>
    have hv' := vld_iff.1 hv
    refine Ev.pos rfl (Ev.step (fun k => by rw [kauditref26_Due.j0]) ?_)
    by_cases hc : c = 3
    · rw [dueS_no (by simp [hc])]
      exact Ev.pos (by simp [hc]) (Ev.now _)
    · refine Ev.neg (by simp [hc]) ?_
      by_cases h0 : m ≥ 0
      · refine Ev.pos h0 ?_
        rw [w64 (by omega) (by omega)]
        by_cases h1 : m > 0
        · rw [dueS_pos hv hc h1]
          exact Ev.now _
        · rw [dueS_neg hv hc h1, show decide (s > 0 ∧ s + m > a) = decide (s > a - m) from by rw [decide_eq_decide]; omega]
          exact Ev.now _
      · refine Ev.neg h0 ?_
        rw [dueS_neg hv hc (by omega)]
        by_cases h1 : s > a
        · refine Ev.pos h1 ?_
          rw [w64 (by omega) (by omega), show decide (s > 0 ∧ s + m > a) = decide (s + m > a) from by rw [decide_eq_decide]; omega]
          exact Ev.now _
        · refine Ev.neg h1 ?_
          rw [show decide (s > 0 ∧ s + m > a) = false from by rw [decide_eq_false_iff_not]; omega]
          exact Ev.now _
theorem inner (x1 x2 : Int) (x21 : List S23) (x22 x23 : Int) (y : List S29) (hy : y.length < 1000) (hI : ∀ p ∈ y, I64 p.f0 ∧ I64 p.f1) (r0 r1 r2 : Int) (cs : List Int) (p : Int) (s0 s1 s2 a b c : Int)
    (hnext : Ev (fun k => kauditlaw26_RotateDue.l0 k x1 x2 x21 x22 (wrap64 (x23 + 1)) r0 r1 r2 cs p s0 s1 s2) true) : ∀ (d i : Nat), y.length - i = d → i ≤ y.length →
    Ev (fun k => kauditlaw26_RotateDue.l1 k x1 x2 x21 x22 x23 y (y.length : Int) (i : Int) r0 r1 r2 cs p s0 s1 s2 a b c) true
  | 0, i, hd, hi => Ev.step (fun k => by rw [kauditlaw26_RotateDue.l1]) (Ev.neg (by omega) hnext)
  | d + 1, i, hd, hi => by
    have hw : wrap64 ((i : Int) + 1) = ((i + 1 : Nat) : Int) := by rw [w64 (by omega) (by omega)]; omega
    have hm : rd_T29 y (i : Int) ∈ y := by
      unfold rd_T29
      rw [List.getD_eq_getElem?_getD, List.getElem?_eq_getElem (by omega)]
      exact List.getElem_mem _
    have hr := hI _ hm
    refine Ev.step (fun k => by rw [kauditlaw26_RotateDue.l1]) (Ev.pos (by omega) (Ev.pos (by omega) (Ev.pos (by omega) ?_)))
    refine Ev.congr (fun k => by rw [due_f _ _ _ _ _ hr.1 hr.2, Option.bind_some]) ?_
    refine Ev.bind (refdue_ev _ _ _ _ _ hr.1 hr.2) ?_
    refine Ev.neg (by simp) ?_
    rw [hw]
    exact inner x1 x2 x21 x22 x23 y hy hI r0 r1 r2 cs p s0 s1 s2 a b c hnext d (i + 1) (by omega) (by omega)
theorem outer (x1 x2 : Int) (h1 : I64 x1) (h2 : I64 x2) (y : List S23) (hy : y.length < 1000) (r0 r1 r2 s0 s1 s2 : Int) (hs : vld s0 s1 s2 = true) : ∀ (d i : Nat) (cs : List Int) (p : Int), Ok cs p → y.length - i = d → i ≤ y.length →
    Ev (fun k => kauditlaw26_RotateDue.l0 k x1 x2 y (y.length : Int) (i : Int) r0 r1 r2 cs p s0 s1 s2) true
  | 0, i, cs, p, h, hd, hi => by
    refine Ev.step (fun k => by rw [kauditlaw26_RotateDue.l0]) (Ev.neg (by omega) ?_)
    refine Ev.congr (fun k => by rw [rotate_valid, Option.bind_some, ref_valid, Option.bind_some]) (Ev.pos (by simp) ?_)
    exact Ev.congr (fun k => by rw [rotate_valid, Option.bind_some]) (Ev.pos hs (Ev.bind begun_ev (Ev.now _)))
  | d + 1, i, cs, p, h, hd, hi => by
    have hw : wrap64 ((i : Int) + 1) = ((i + 1 : Nat) : Int) := by rw [w64 (by omega) (by omega)]; omega
    obtain ⟨q1, p1, e1, m1, o1⟩ := pick_ok h [0, 60, 64, 149, 150, 300] (by simp)
    obtain ⟨q2, p2, e2, m2, o2⟩ := pick_ok o1 [1, 4, 150] (by simp)
    refine Ev.step (fun k => by rw [kauditlaw26_RotateDue.l0]) (Ev.pos (by omega) (Ev.pos (by omega) (Ev.pos (by omega) ?_)))
    refine Ev.congr (fun k => by rw [e1, Option.bind_some, e2, Option.bind_some, Option.bind_some]) ?_
    have hnext := outer x1 x2 h1 h2 y hy r0 r1 r2 s0 s1 s2 hs d (i + 1) cs p2 o2 (by omega) (by omega)
    rw [← hw] at hnext
    refine inner x1 x2 y (y.length : Int) (i : Int) _ (by simp) ?_ r0 r1 r2 cs p2 s0 s1 s2 _ _ _ hnext _ 0 rfl (by omega)
    intro z hz
    unfold I64 at *
    simp only [List.mem_cons, List.not_mem_nil, or_false] at hz m1 m2
    rcases hz with rfl | rfl | rfl | rfl | rfl | rfl <;> refine ⟨?_, ?_⟩ <;> (try dsimp only) <;> omega
theorem pure : ∀ (x0 : S23) (x1 : Int) (x2 : Int) (x3 : List Int), wf23 x0 → (Lit.int .i64 x1).wf = true → (Lit.int .i64 x2).wf = true → ((x3).length * 1 ≤ 140737488351232 ∧ ∀ a ∈ (x3), (Lit.int .u8 a).wf = true) → ∃ k, kauditlaw26_RotateDue.f k x0.f0 x0.f1 x0.f2 x1 x2 x3 = some true := by
  intro x0 x1 x2 x3 h0 h1 h2 h3
  obtain ⟨cs, e, hok⟩ := new_ok x3 30 (by omega) (by omega) (fun x hx => wf_u8 (h3.2 x hx))
  obtain ⟨m, q, d, p, e1, m0, m1, q0, q1, d0, d1, hp1⟩ := rotation_ok hok
  have h := outer x1 x2 (wf_i64 h1) (wf_i64 h2) [(⟨x0.f0, x0.f1, x0.f2⟩ : S23), (⟨m, q, d⟩ : S23)] (by simp) x0.f0 x0.f1 x0.f2 m q d (vld_iff.2 (by omega)) _ 0 cs p hp1 rfl (by omega)
  obtain ⟨K, hK⟩ := h
  refine ⟨K, ?_⟩
  rw [kauditlaw26_RotateDue.f, e, Option.bind_some, e1, Option.bind_some, Option.bind_some]
  exact hK K (Nat.le_refl _)
end Go.Proofs.YtadjaakmpjhdhaaDoor.Q.PRotateDue
