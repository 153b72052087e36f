/- Rotations, what is dropped, and the worked example, as plain functions. -/
import Derived.Test.YtadjaakmpjhdhaaDoorQx1
import Derived.Test.YtadjaakmpjhdhaaDoorQx2
import Derived.Test.YtadjaakmpjhdhaaDoorQx5
import Derived.Test.YtadjaakmpjhdhaaDoorQx3
import Derived.Test.YtadjaakmpjhdhaaDoorKaUniq
namespace Go.Proofs.YtadjaakmpjhdhaaDoor.Q
open Go.RowKit Go.Proofs.YtadjaakmpjhdhaaDoorW.PrintWords
set_option linter.unusedVariables false
set_option linter.unusedSimpArgs false

theorem pick_ok {cs : List Int} {a : Int} (h : Ok cs a) (l : List Int) (hl : l ≠ []) : ∃ r b, kauditmill_Case_Pick.f cs a l = some (r, b) ∧ r ∈ l ∧ Ok cs b := by
  have hpos : 0 < l.length := List.length_pos_iff.2 hl
  obtain ⟨r, b, e, h0, h1, _, hb⟩ := int_ok h (l.length : Int)
  unfold kauditmill_Case_Pick.f
  rw [e]
  simp only [Option.bind_some]
  rw [if_pos h0, if_pos (by omega)]
  exact ⟨_, _, rfl, rd_mem h0 (by omega), hb⟩
theorem rotation_ok {cs : List Int} {a : Int} (h : Ok cs a) : ∃ m k c b, kauditmill_Case_Rotation.f cs a = some (m, k, c, b) ∧ 64 ≤ m ∧ m ≤ 1048576 ∧ 2 ≤ k ∧ k ≤ 5 ∧ 1 ≤ c ∧ c ≤ 4 ∧ Ok cs b := by
  obtain ⟨r, b, e, hr, hb⟩ := pick_ok h [64, 150, 300, 600, 1500, 1048576] (by simp)
  obtain ⟨r2, b2, e2, h20, h21, _, hb2⟩ := int_ok hb 4
  obtain ⟨r3, b3, e3, h30, h31, _, hb3⟩ := int_ok hb2 4
  unfold kauditmill_Case_Rotation.f
  rw [e]
  simp only [Option.bind_some]
  rw [e2]
  simp only [Option.bind_some]
  rw [e3]
  simp only [Option.bind_some]
  refine ⟨_, _, _, _, rfl, ?_, ?_, ?_, ?_, ?_, ?_, hb3⟩
  · simp only [List.mem_cons, List.not_mem_nil, or_false] at hr; omega
  · simp only [List.mem_cons, List.not_mem_nil, or_false] at hr; omega
  all_goals (rw [w64 (by omega) (by omega)]; omega)

def vld (a b c : Int) : Bool := decide (64 ≤ a ∧ a ≤ 1048576 ∧ 2 ≤ b ∧ b ≤ 16 ∧ 1 ≤ c ∧ c ≤ 4)
theorem vld_iff {a b c : Int} : vld a b c = true ↔ 64 ≤ a ∧ a ≤ 1048576 ∧ 2 ≤ b ∧ b ≤ 16 ∧ 1 ≤ c ∧ c ≤ 4 := by simp [vld]
theorem rotate_valid (a b c : Int) : rotate_Valid.f a b c = some (vld a b c) := by
  unfold rotate_Valid.f
  repeat' split
  all_goals (congr 1; rw [Bool.eq_iff_iff, vld_iff]; simp; omega)
theorem ref_valid (a b c : Int) : kauditref26_RotateValid.f a b c = some (vld a b c) := by
  unfold kauditref26_RotateValid.f
  repeat' split
  all_goals (congr 1; rw [Bool.eq_iff_iff, vld_iff]; simp; omega)

def dropS (a b c : Int) (l : List Int) : List Int := if vld a b c = true ∧ c = 1 then (uniq l).take ((uniq l).length + 1 - b : Int).toNat else []

theorem dropS_yes {a b c : Int} (l : List Int) (h : vld a b c = true) (hc : c = 1) : dropS a b c l = (uniq l).take ((uniq l).length + 1 - b : Int).toNat := if_pos ⟨h, hc⟩
theorem dropS_no {a b c : Int} (l : List Int) (h : ¬ (vld a b c = true ∧ c = 1)) : dropS a b c l = [] := if_neg h
theorem unique_f {l : List Int} (hl : l.length < 17592186044414) : rotate_unique_int.f l = some (uniq l) := by
  unfold rotate_unique_int.f uniq
  rw [if_pos (by omega)]
theorem drop_ev (a b c : Int) (l : List Int) (hl : l.length < 17592186044414) : Ev (fun k => rotate_Drop.f k a b c l) (dropS a b c l) := by
  refine Ev.congr (fun k => by rw [rotate_Drop.f, rotate_valid, Option.bind_some]) ?_
  have hu := uniq_len l
  cases hv : vld a b c with
  | false =>
    rw [dropS_no l (by simp [hv])]
    exact Ev.neg (by simp) (Ev.step (fun k => by rw [rotate_Drop.j0]) (Ev.pos rfl (Ev.now _)))
  | true =>
    have hv' := vld_iff.1 hv
    refine Ev.pos rfl (Ev.step (fun k => by rw [rotate_Drop.j0]) ?_)
    by_cases hc : c = 1
    · refine Ev.neg (by simp [hc]) ?_
      rw [dropS_yes l hv hc]
      refine Ev.congr (fun k => by rw [unique_f hl, Option.bind_some]) ?_
      rw [w64 (x := ((uniq l).length : Int) + 1) (by omega) (by omega), w64 (by omega) (by omega)]
      by_cases h0 : ((uniq l).length : Int) + 1 - b ≤ 0
      · refine Ev.pos h0 ?_
        rw [Int.toNat_of_nonpos h0]
        exact Ev.now _
      · exact Ev.neg h0 (Ev.pos (by omega) (Ev.pos (by omega) (Ev.now _)))
    · refine Ev.pos (by simp [hc]) ?_
      rw [dropS_no l (by simp [hc])]
      exact Ev.now _
theorem refdrop_loop (a b c : Int) (l : List Int) (hl : l.length < 17592186044414) : ∀ (d i : Nat) (acc : List Int), l.length - i = d → i ≤ l.length → acc.length + d < 17592186044414 → addAll acc (l.drop i) = uniq l →
    Ev (fun k => kauditref26_Drop.l0 k acc l (l.length : Int) (i : Int) a b c) (dropS a b c l)
  | 0, i, acc, hd, hi, ha, he => by
    rw [List.drop_eq_nil_of_le (by omega)] at he
    obtain rfl : acc = uniq l := he
    refine Ev.step (fun k => by rw [kauditref26_Drop.l0]) (Ev.neg (by omega) ?_)
    refine Ev.congr (fun k => by rw [ref_valid, Option.bind_some]) ?_
    have hu := uniq_len l
    cases hv : vld a b c with
    | false =>
      rw [dropS_no l (by simp [hv])]
      exact Ev.neg (by simp) (Ev.now _)
    | true =>
      have hv' := vld_iff.1 hv
      refine Ev.pos rfl ?_
      by_cases hc : c = 1
      · refine Ev.pos hc ?_
        rw [dropS_yes l hv hc, w64 (x := ((uniq l).length : Int) + 1) (by omega) (by omega), w64 (by omega) (by omega)]
        by_cases h0 : ((uniq l).length : Int) + 1 - b > 0
        · exact Ev.pos h0 (Ev.pos (by omega) (Ev.pos (by omega) (Ev.now _)))
        · refine Ev.neg h0 ?_
          rw [Int.toNat_of_nonpos (by omega)]
          exact Ev.now _
      · refine Ev.neg hc ?_
        rw [dropS_no l (by simp [hc])]
        exact Ev.now _
  | d + 1, i, acc, hd, hi, ha, he => by
    have hlt : i < l.length := by omega
    have hw : wrap64 ((i : Int) + 1) = ((i + 1 : Nat) : Int) := by rw [w64 (by omega) (by omega)]; omega
    refine Ev.step (fun k => by rw [kauditref26_Drop.l0]) (Ev.pos (by omega) (Ev.pos (by omega) (Ev.pos (by omega) ?_)))
    refine Ev.bind (add_ev (rd l i) acc (by omega)) ?_
    rw [hw]
    have hlen := addR_len (rd l i) acc
    exact refdrop_loop a b c l hl d (i + 1) _ (by omega) (by omega) (by omega) (by rw [drop_at hlt] at he; exact he)
theorem refdrop_ev (a b c : Int) (l : List Int) (hl : l.length < 17592186044413) : Ev (fun k => kauditref26_Drop.f k a b c l) (dropS a b c l) := by
  have := refdrop_loop a b c l (by omega) l.length 0 [] (by omega) (by omega) (by simp; omega) (by rw [List.drop_zero]; exact addAll_uniq l)
  exact Ev.congr (fun k => by rw [kauditref26_Drop.f]) (by simpa using this)

/-- The worked example. -/
theorem begun_ev : Ev (fun k => kauditlaw26_begun.f k) true := by
  have hu : uniq [5, 4, 6] = [4, 5, 6] := asc_ext (uniq_spec _).1 (by simp [Asc]) (fun x => by rw [(uniq_spec _).2 x]; simp; omega)
  have hd : dropS 100 3 1 [5, 4, 6] = [4] := by unfold dropS; rw [hu, if_pos (by decide)]; rfl
  have hn : ∃ k, rotate_Number.f k (⟨#[108, 111, 103, 45, 48, 48, 49, 50, 46, 122]⟩ : ByteArray) = some (12, true, true) := ⟨10, by decide +kernel⟩
  have hname : rotate_Name.f 12 = some (⟨#[108, 111, 103, 45, 48, 48, 49, 50]⟩ : ByteArray) := by
    unfold rotate_Name.f nmB
    rw [show Lib.itoa 12 = [49, 50] from by rw [show (12 : Int) = ((12 : Nat) : Int) from rfl, Lib.itoa_nonneg, Lib.decDigits_two (by omega) (by omega)]; rfl]
    rfl
  have h1 : rotate_Due.f 100 3 1 90 10 = some false := by decide +kernel
  have h2 : rotate_Due.f 100 3 1 91 10 = some true := by decide +kernel
  obtain ⟨k0, hn⟩ := hn
  have hN : Ev (fun k => rotate_Number.f k (⟨#[108, 111, 103, 45, 48, 48, 49, 50, 46, 122]⟩ : ByteArray)) (12, true, true) := Ev.of (rotate_Number.mono _) hn
  have hD := drop_ev 100 3 1 [5, 4, 6] (by simp)
  rw [hd] at hD
  refine Ev.congr (fun k => by rw [kauditlaw26_begun.f]) (Ev.bind hD (Ev.bind hN ?_))
  refine ⟨0, fun k _ => ?_⟩
  simp [h1, h2, hname, rd]
end Go.Proofs.YtadjaakmpjhdhaaDoor.Q
