/- The pure statement of RotateDrops. -/
import Derived.Test.YtadjaakmpjhdhaaDoorQx4
import Derived.Test.YtadjaakmpjhdhaaDoorKaWfRotateDrops
import Derived.Test.YtadjaakmpjhdhaaDoorKaDrop
namespace Go.Proofs.YtadjaakmpjhdhaaDoor.Q.PRotateDrops
open Go.RowKit Go.Proofs.YtadjaakmpjhdhaaDoorW.PrintWords
set_option linter.unusedVariables false
set_option linter.unusedSimpArgs false

theorem dropS_len (a b c : Int) (l : List Int) : (dropS a b c l).length ≤ l.length := by
  have := uniq_len l
  unfold dropS
  split
  · simp; omega
  · simp
theorem both {a b c : Int} {l : List Int} (hl : l.length < 17592186044413) {g : Nat → Option Bool} {r : Bool} (hg : Ev g r) : Ev (fun k => (rotate_Drop.f k a b c l).bind fun t => (kauditref26_Drop.f k a b c l).bind fun u => (kauditref26_SameInts.f k t u).bind fun s => if s = true then g k else some false) r := by
  refine Ev.bind (drop_ev a b c l (by omega)) (Ev.bind (refdrop_ev a b c l hl) (Ev.bind (same_ev _ ?_) (Ev.pos rfl hg)))
  have := dropS_len a b c l
  omega
theorem loop (x1 : List Int) (hx : x1.length < 17592186044413) (a b c : Int) : ∀ (n : Nat) (cs : List Int) (p : Int) (l : List Int), Ok cs p → l.length + n < 1000 → n < 1000 →
    Ev (fun k => kauditlaw26_RotateDrops.l0 k x1 l (n : Int) a b c cs p) true
  | 0, cs, p, l, h, hn, h1 => by
    obtain ⟨m, q, d, p2, e, _, _, _, _, _, _, hp⟩ := rotation_ok h
    refine Ev.step (fun k => by rw [kauditlaw26_RotateDrops.l0]) (Ev.neg (by omega) ?_)
    refine Ev.congr (fun k => by rw [e, Option.bind_some]) ?_
    refine both hx (both (by omega) (both hx ?_))
    exact Ev.bind begun_ev (Ev.now _)
  | n + 1, cs, p, l, h, hn, h1 => by
    obtain ⟨r, p2, e, h0, hr, hr2, hp⟩ := int_ok h 20
    refine Ev.step (fun k => by rw [kauditlaw26_RotateDrops.l0]) (Ev.pos (by omega) ?_)
    refine Ev.congr (fun k => by rw [e, Option.bind_some]) (Ev.pos (by omega) ?_)
    have hw : wrap64 (((n + 1 : Nat) : Int) - 1) = (n : Int) := by rw [w64 (by omega) (by omega)]; omega
    rw [hw]
    exact loop x1 hx a b c n cs p2 _ hp (by simp; omega) (by omega)

theorem pure : ∀ (x0 : S23) (x1 : List Int) (x2 : List Int), wf23 x0 → ((x1).length * 8 ≤ 140737488351232 ∧ ∀ a ∈ (x1), (Lit.int .i64 a).wf = true) → ((x2).length * 1 ≤ 140737488351232 ∧ ∀ a ∈ (x2), (Lit.int .u8 a).wf = true) → ∃ k, kauditlaw26_RotateDrops.f k x0.f0 x0.f1 x0.f2 x1 x2 = some true := by
  intro x0 x1 x2 _ h1 h2
  obtain ⟨cs, e, hok⟩ := new_ok x2 60 (by omega) (by omega) (fun x hx => wf_u8 (h2.2 x hx))
  obtain ⟨r, p, e2, h0, hr, hr2, hp⟩ := int_ok hok 12
  have h := loop x1 (by omega) x0.f0 x0.f1 x0.f2 r.toNat cs p [] hp (by simp; omega) (by omega)
  rw [Int.toNat_of_nonneg h0] at h
  obtain ⟨K, hK⟩ := h
  refine ⟨K, ?_⟩
  rw [kauditlaw26_RotateDrops.f, e, Option.bind_some, e2, Option.bind_some]
  exact hK K (Nat.le_refl _)
end Go.Proofs.YtadjaakmpjhdhaaDoor.Q.PRotateDrops
