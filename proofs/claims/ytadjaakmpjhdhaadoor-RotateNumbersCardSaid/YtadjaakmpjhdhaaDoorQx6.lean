-- Printed by px.py: a changed copy of the kit's printer, with contracts of this session's own in it. Not trusted: Lean checks it.
import Derived.Test.YtadjaakmpjhdhaaDoorQx0
import Derived.Test.YtadjaakmpjhdhaaDoorQx1
import Derived.Test.YtadjaakmpjhdhaaDoorQx2
import Derived.Test.YtadjaakmpjhdhaaDoorQx3
import Derived.Test.YtadjaakmpjhdhaaDoorQx5
namespace Go.Proofs.YtadjaakmpjhdhaaDoor.Q
open Go.RowKit Go.Proofs.YtadjaakmpjhdhaaDoorW.PrintWords Go.Proofs.YtadjaakmpjhdhaaDoorW.PrintLast Go.Proofs.YtadjaakmpjhdhaaDoorW.PrintMore
attribute [local go_sem] max2_int min2_int max_two min_two max_three min_three max_four min_four   -- for this text's walks alone
set_option linter.unusedVariables false
set_option linter.unusedSimpArgs false

/-! ### kauditref26_Number: function 25 -/
mutual
def kauditref26_Number.j0 : Nat → ByteArray → ByteArray → Bool → Bool → Option (Int × Bool × Bool)
  | 0, _, _, _, _ => none
  | k + 1, x0, x5, x6, x17 => if x17 = true then (if 0 ≤ 8 then (if 8 ≤ (x0.size : Int) then (kauditref26_Number.j1 k (x0.extract 0 8) true) else (none)) else (none)) else (kauditref26_Number.j1 k x5 x6)
def kauditref26_Number.j1 : Nat → ByteArray → Bool → Option (Int × Bool × Bool)
  | 0, _, _ => none
  | k + 1, x5, x6 => if (x5.size : Int) = 8 then (kauditref26_Number.l0 k x5 x6 0 4) else (some (0, false, false))
def kauditref26_Number.l0 : Nat → ByteArray → Bool → Int → Int → Option (Int × Bool × Bool)
  | 0, _, _, _, _ => none
  | k + 1, x5, x6, x7, x8 => if x8 < 8 then (if 0 ≤ x8 then (if x8 < (x5.size : Int) then (if (bt x5 x8) < 48 then (some (0, false, false)) else (if (bt x5 x8) > 57 then (some (0, false, false)) else (kauditref26_Number.l0 k x5 x6 (wrap64 ((wrap64 (10 * x7)) + (((bt x5 x8) - 48) % 256))) (wrap64 (x8 + 1))))) else (none)) else (none)) else ((kauditref26_Name.f k x7).bind fun t259 => (if t259.toList = x5.toList then (some (x7, true, x6)) else (some (0, false, false))))
end
def kauditref26_Number.f (k : Nat) (a0 : ByteArray) : Option (Int × Bool × Bool) := if (a0.size : Int) = 10 then (if 8 ≤ (a0.size : Int) then (kauditref26_Number.j0 k a0 a0 false ((a0.extract 8 a0.size).toList == ([46, 122] : List UInt8))) else (none)) else (kauditref26_Number.j0 k a0 a0 false false)
theorem kauditref26_Number.mono_l : ∀ k, (∀ y0 y1 y2 y3, LeO (kauditref26_Number.j0 k y0 y1 y2 y3) (kauditref26_Number.j0 (k + 1) y0 y1 y2 y3)) ∧ (∀ y0 y1, LeO (kauditref26_Number.j1 k y0 y1) (kauditref26_Number.j1 (k + 1) y0 y1)) ∧ (∀ y0 y1 y2 y3, LeO (kauditref26_Number.l0 k y0 y1 y2 y3) (kauditref26_Number.l0 (k + 1) y0 y1 y2 y3))
  | 0 => ⟨fun _ _ _ _ r h => by simp [kauditref26_Number.j0] at h, fun _ _ r h => by simp [kauditref26_Number.j1] at h, fun _ _ _ _ r h => by simp [kauditref26_Number.l0] at h⟩
  | k + 1 => by
    obtain ⟨ih0, ih1, ih2⟩ := kauditref26_Number.mono_l k
    refine ⟨?_, ?_, ?_⟩
    · intro y0 y1 y2 y3
      unfold kauditref26_Number.j0
      repeat' first
      | (with_reducible exact ih0 _ _ _ _)
      | (with_reducible exact ih1 _ _)
      | (with_reducible exact ih2 _ _ _ _)
      | (with_reducible exact kauditref26_Name.mono _ _)
      | (with_reducible exact LeO.refl _)
      | (with_reducible exact LeO.none _)
      | (with_reducible refine LeO.ite ?_ ?_)
      | (with_reducible refine LeO.bind ?_ (fun _ => ?_))
      | exact ih0 _ _ _ _
      | exact ih1 _ _
      | exact ih2 _ _ _ _
      | exact kauditref26_Name.mono _ _
      | exact LeO.none _
      | refine LeO.ite ?_ ?_
      | refine LeO.bind ?_ (fun _ => ?_)
    · intro y0 y1
      unfold kauditref26_Number.j1
      repeat' first
      | (with_reducible exact ih0 _ _ _ _)
      | (with_reducible exact ih1 _ _)
      | (with_reducible exact ih2 _ _ _ _)
      | (with_reducible exact kauditref26_Name.mono _ _)
      | (with_reducible exact LeO.refl _)
      | (with_reducible exact LeO.none _)
      | (with_reducible refine LeO.ite ?_ ?_)
      | (with_reducible refine LeO.bind ?_ (fun _ => ?_))
      | exact ih0 _ _ _ _
      | exact ih1 _ _
      | exact ih2 _ _ _ _
      | exact kauditref26_Name.mono _ _
      | exact LeO.none _
      | refine LeO.ite ?_ ?_
      | refine LeO.bind ?_ (fun _ => ?_)
    · intro y0 y1 y2 y3
      unfold kauditref26_Number.l0
      repeat' first
      | (with_reducible exact ih0 _ _ _ _)
      | (with_reducible exact ih1 _ _)
      | (with_reducible exact ih2 _ _ _ _)
      | (with_reducible exact kauditref26_Name.mono _ _)
      | (with_reducible exact LeO.refl _)
      | (with_reducible exact LeO.none _)
      | (with_reducible refine LeO.ite ?_ ?_)
      | (with_reducible refine LeO.bind ?_ (fun _ => ?_))
      | exact ih0 _ _ _ _
      | exact ih1 _ _
      | exact ih2 _ _ _ _
      | exact kauditref26_Name.mono _ _
      | exact LeO.none _
      | refine LeO.ite ?_ ?_
      | refine LeO.bind ?_ (fun _ => ?_)
theorem kauditref26_Number.mono : ∀ a0 k, LeO (kauditref26_Number.f k a0) (kauditref26_Number.f (k + 1) a0) := by
  intro a0 k
  obtain ⟨ih0, ih1, ih2⟩ := kauditref26_Number.mono_l k
  unfold kauditref26_Number.f
  repeat' first
      | (with_reducible exact ih0 _ _ _ _)
      | (with_reducible exact ih1 _ _)
      | (with_reducible exact ih2 _ _ _ _)
      | (with_reducible exact kauditref26_Name.mono _ _)
      | (with_reducible exact LeO.refl _)
      | (with_reducible exact LeO.none _)
      | (with_reducible refine LeO.ite ?_ ?_)
      | (with_reducible refine LeO.bind ?_ (fun _ => ?_))
      | exact ih0 _ _ _ _
      | exact ih1 _ _
      | exact ih2 _ _ _ _
      | exact kauditref26_Name.mono _ _
      | exact LeO.none _
      | refine LeO.ite ?_ ?_
      | refine LeO.bind ?_ (fun _ => ?_)
set_option maxHeartbeats 8000000 in
set_option maxRecDepth 100000 in
theorem kauditref26_Number.calls (k : Nat) (a0 : ByteArray) (r1 : Int) (r2 : Bool) (r3 : Bool) (w : World) (h : kauditref26_Number.f k a0 = some (r1, r2, r3)) :
    Calls Tryd.prog 25 #[.string a0] w fun e w' => e = .returned (.tuple #[.int .i64 r1, .bool r2, .bool r3]) ∧ Below w.heap.size w w' := by
  have HB := Aside0.mk (Below.refl w.heap.size w)
  have H : (if (a0.size : Int) = 10 then (if 8 ≤ (a0.size : Int) then (kauditref26_Number.j0 k a0 a0 false ((a0.extract 8 a0.size).toList == ([46, 122] : List UInt8))) else (none)) else (kauditref26_Number.j0 k a0 a0 false false)) = some (r1, r2, r3) := h
  clear h
  have HC2 := Aside0.mk H
  clear H
  go_enter Tryd.func25, Tryd.ntmps25
  go_upto_region 2 with (fail)
  go_cut [17] (fun v17 wc => ∃ (kq : Nat) (x17_1 : Bool), v17 = .bool x17_1 ∧ Aside0 (kauditref26_Number.j0 kq a0 a0 false x17_1 = some (r1, r2, r3)) ∧ Aside0 (kq ≤ k) ∧ Aside0 (Below w.heap.size w wc))
  case first =>
    have H := HC2.out
    clear HC2
    by_cases c3 : (a0.size : Int) = 10
    · rw [if_pos c3] at H
      have c3b0 : ((a0.size : Int) == 10) = true := beq_iff_eq.mpr c3
      have c3b1 : ((a0.size : Int) != 10) = false := bne_eq_false_iff_eq.mpr c3
      clear c3
      (first | rw [c3b0] | (simp only [i64_w, i32_w]; rw [c3b0]) | skip)
      by_cases c4 : 8 ≤ (a0.size : Int)
      · rw [if_pos c4] at H
        have c4b0 := eq_true c4
        have c4b1 : decide (8 ≤ (a0.size : Int)) = true := decide_eq_true c4
        clear c4
        have H' := Aside0.mk H
        clear H
        go_wp2
        go_meet
        case rel => exact ⟨_, (((a0.extract 8 a0.size).toList == ([46, 122] : List UInt8))), (by first | rfl | (simp; done) | (simp [*]; done)), H', ⟨by first | omega | exact Nat.le_refl _⟩, ⟨by repeat (first | (with_reducible first | exact HB.out | apply below_alloc | apply pw_below_drewN | apply below_drew1) | exact HB.out)⟩⟩
      · rw [if_neg c4] at H
        exact absurd H (by simp)
    · rw [if_neg c3] at H
      have c3b0 : ((a0.size : Int) == 10) = false := beq_eq_false_iff_ne.mpr c3
      have c3b1 : ((a0.size : Int) != 10) = true := bne_iff_ne.mpr c3
      (first | rw [c3b0] | (simp only [i64_w, i32_w]; rw [c3b0]) | skip)
      have H' := Aside0.mk H
      clear H
      go_wp2
      go_meet
      case rel => exact ⟨_, (false), (by first | rfl | (simp; done) | (simp [*]; done)), H', ⟨by first | omega | exact Nat.le_refl _⟩, ⟨by repeat (first | (with_reducible first | exact HB.out | apply below_alloc | apply pw_below_drewN | apply below_drew1) | exact HB.out)⟩⟩
  case rest =>
    clear HC2
    try clear c2
    try clear p2
    try clear c3
    try clear c3b0
    try clear c3b1
    try clear c4
    try clear c4b0
    try clear c4b1
    obtain ⟨kq, x17_1, rfl, HA, HJ1, HB⟩ := hcut
    cases kq with
    | zero => exact absurd HA.out (by simp [kauditref26_Number.j0])
    | succ kj1 =>
      have H := HA.out
      clear HA
      simp only [kauditref26_Number.j0] at H
      have HC5 := Aside0.mk H
      clear H
      go_upto_if 17 with (fail)
      go_cut [5, 6] (fun v5 v6 wc => ∃ (kq : Nat) (x5_4 : ByteArray) (x6_4 : Bool), v5 = .string x5_4 ∧ v6 = .bool x6_4 ∧ Aside0 (kauditref26_Number.j1 kq x5_4 x6_4 = some (r1, r2, r3)) ∧ Aside0 (kq ≤ kj1) ∧ Aside0 (Below w.heap.size w wc))
      case first =>
        have H := HC5.out
        clear HC5
        by_cases c6 : x17_1 = true
        · subst c6
          have H1 : (if 0 ≤ 8 then (if 8 ≤ (a0.size : Int) then (kauditref26_Number.j1 kj1 (a0.extract 0 8) true) else (none)) else (none)) = some (r1, r2, r3) := by rw [if_pos rfl] at H; exact H
          clear H
          have H := H1
          clear H1
          by_cases c7 : 0 ≤ 8
          · rw [if_pos c7] at H
            have c7b0 := eq_true c7
            have c7b1 : decide (0 ≤ 8) = true := decide_eq_true c7
            clear c7
            by_cases c8 : 8 ≤ (a0.size : Int)
            · rw [if_pos c8] at H
              have c8b0 := eq_true c8
              have c8b1 : decide (8 ≤ (a0.size : Int)) = true := decide_eq_true c8
              clear c8
              have H' := Aside0.mk H
              clear H
              go_wp2
              go_meet
              case rel => exact ⟨_, (a0.extract 0 8), (true), (by first | rfl | (simp; done) | (simp [*]; done)), (by first | rfl | (simp; done) | (simp [*]; done)), H', ⟨by have := HJ1.out; first | omega | exact Nat.le_refl _⟩, ⟨by repeat (first | (with_reducible first | exact HB.out | apply below_alloc | apply pw_below_drewN | apply below_drew1) | exact HB.out)⟩⟩
            · rw [if_neg c8] at H
              exact absurd H (by simp)
          · rw [if_neg c7] at H
            exact absurd H (by simp)
        · replace c6 := Bool.eq_false_iff.mpr c6
          subst c6
          have H1 : (kauditref26_Number.j1 kj1 a0 false) = some (r1, r2, r3) := by rw [if_neg (show ¬ (false = true) by decide)] at H; exact H
          clear H
          have H := H1
          clear H1
          have H' := Aside0.mk H
          clear H
          go_wp2
          go_meet
          case rel => exact ⟨_, (a0), (false), (by first | rfl | (simp; done) | (simp [*]; done)), (by first | rfl | (simp; done) | (simp [*]; done)), H', ⟨by have := HJ1.out; first | omega | exact Nat.le_refl _⟩, ⟨by repeat (first | (with_reducible first | exact HB.out | apply below_alloc | apply pw_below_drewN | apply below_drew1) | exact HB.out)⟩⟩
      case rest =>
        clear HC5
        try clear c2
        try clear p2
        try clear c3
        try clear c3b0
        try clear c3b1
        try clear c4
        try clear c4b0
        try clear c4b1
        try clear c6
        try clear c7
        try clear c7b0
        try clear c7b1
        try clear c8
        try clear c8b0
        try clear c8b1
        try clear p2
        obtain ⟨kq, x5_4, x6_4, rfl, rfl, HA, HJ4, HB⟩ := hcut
        cases kq with
        | zero => exact absurd HA.out (by simp [kauditref26_Number.j1])
        | succ kj4 =>
          have H := HA.out
          clear HA
          simp only [kauditref26_Number.j1] at H
          by_cases c9 : (x5_4.size : Int) = 8
          · rw [if_pos c9] at H
            have c9b0 : ((x5_4.size : Int) == 8) = true := beq_iff_eq.mpr c9
            have c9b1 : ((x5_4.size : Int) != 8) = false := bne_eq_false_iff_eq.mpr c9
            clear c9
            have H' := Aside0.mk H
            clear H
            go_wp2
            go_loopg [7, 8] kj4 (fun kq v7 v8 w' => ∃ (x7_3 : Int) (x8_3 : Int), v7 = .int .i64 x7_3 ∧ v8 = .int .i64 x8_3 ∧ Aside0 (kauditref26_Number.l0 kq x5_4 x6_4 x7_3 x8_3 = some (r1, r2, r3)) ∧ Aside0 (kq ≤ kj4) ∧ Aside0 (Below w.heap.size w w'))
            case atStart => exact ⟨(0), (4), (by first | rfl | (simp; done) | (simp [*]; done)), (by first | rfl | (simp; done) | (simp [*]; done)), H', ⟨Nat.le_refl _⟩, ⟨by repeat (first | (with_reducible first | exact HB.out | apply below_alloc | apply pw_below_drewN | apply below_drew1) | exact HB.out)⟩⟩
            case round =>
              clear H'
              try clear c2
              try clear p2
              try clear c3
              try clear c3b0
              try clear c3b1
              try clear c4
              try clear c4b0
              try clear c4b1
              try clear c6
              try clear c7
              try clear c7b0
              try clear c7b1
              try clear c8
              try clear c8b0
              try clear c8b1
              try clear c9
              try clear c9b0
              try clear c9b1
              try clear p2
              obtain ⟨x7_3, x8_3, rfl, rfl, HA, HK3, HB⟩ := hrel
              cases gk with
              | zero => exact absurd HA.out (by simp [kauditref26_Number.l0])
              | succ k3 =>
                have H := HA.out
                clear HA
                simp only [kauditref26_Number.l0] at H
                by_cases c10 : x8_3 < 8
                · rw [if_pos c10] at H
                  have c10b0 : decide (x8_3 < 8) = true := decide_eq_true c10
                  clear c10
                  by_cases c11 : 0 ≤ x8_3
                  · rw [if_pos c11] at H
                    have c11b0 : decide (0 ≤ x8_3) = true := decide_eq_true c11
                    clear c11
                    by_cases c12 : x8_3 < (x5_4.size : Int)
                    · rw [if_pos c12] at H
                      have c12b0 : decide (x8_3 < (x5_4.size : Int)) = true := decide_eq_true c12
                      clear c12
                      by_cases c14 : (bt x5_4 x8_3) < 48
                      · rw [if_pos c14] at H
                        have c14b0 : decide ((bt x5_4 x8_3) < 48) = true := decide_eq_true c14
                        clear c14
                        simp only [Option.some.injEq, Prod.mk.injEq] at H
                        obtain ⟨rfl, rfl, rfl⟩ := H
                        have p13 : 0 ≤ (x8_3 : Int) := of_decide_eq_true (by first | (with_reducible assumption) | assumption)
                        have q13 : x8_3 < (x5_4.size : Int) := of_decide_eq_true (by first | (with_reducible assumption) | assumption)
                        have hx13 := bt_at x5_4 x8_3
                        replace p13 := eq_true p13
                        replace q13 := eq_true q13
                        go_wp2
                        go_ret3
                        exact ⟨by first | rfl | (simp [errW_none, errW_some] <;> rfl) | (simp [*, errW_none, errW_some] <;> rfl), by repeat (first | (with_reducible first | exact HB.out | apply below_alloc | apply pw_below_drewN | apply below_drew1) | exact HB.out)⟩
                      · rw [if_neg c14] at H
                        have c14b0 : decide ((bt x5_4 x8_3) < 48) = false := decide_eq_false c14
                        clear c14
                        by_cases c16 : (bt x5_4 x8_3) > 57
                        · rw [if_pos c16] at H
                          have c16b0 : decide (57 < (bt x5_4 x8_3)) = true := decide_eq_true c16
                          clear c16
                          simp only [Option.some.injEq, Prod.mk.injEq] at H
                          obtain ⟨rfl, rfl, rfl⟩ := H
                          have p13 : 0 ≤ (x8_3 : Int) := of_decide_eq_true (by first | (with_reducible assumption) | assumption)
                          have q13 : x8_3 < (x5_4.size : Int) := of_decide_eq_true (by first | (with_reducible assumption) | assumption)
                          have hx13 := bt_at x5_4 x8_3
                          replace p13 := eq_true p13
                          replace q13 := eq_true q13
                          have p15 : 0 ≤ (x8_3 : Int) := of_decide_eq_true (by first | (with_reducible assumption) | assumption)
                          have q15 : x8_3 < (x5_4.size : Int) := of_decide_eq_true (by first | (with_reducible assumption) | assumption)
                          have hx15 := bt_at x5_4 x8_3
                          replace p15 := eq_true p15
                          replace q15 := eq_true q15
                          go_wp2
                          go_ret3
                          exact ⟨by first | rfl | (simp [errW_none, errW_some] <;> rfl) | (simp [*, errW_none, errW_some] <;> rfl), by repeat (first | (with_reducible first | exact HB.out | apply below_alloc | apply pw_below_drewN | apply below_drew1) | exact HB.out)⟩
                        · rw [if_neg c16] at H
                          have c16b0 : decide (57 < (bt x5_4 x8_3)) = false := decide_eq_false c16
                          clear c16
                          have H' := Aside0.mk H
                          clear H
                          have p13 : 0 ≤ (x8_3 : Int) := of_decide_eq_true (by first | (with_reducible assumption) | assumption)
                          have q13 : x8_3 < (x5_4.size : Int) := of_decide_eq_true (by first | (with_reducible assumption) | assumption)
                          have hx13 := bt_at x5_4 x8_3
                          replace p13 := eq_true p13
                          replace q13 := eq_true q13
                          have p15 : 0 ≤ (x8_3 : Int) := of_decide_eq_true (by first | (with_reducible assumption) | assumption)
                          have q15 : x8_3 < (x5_4.size : Int) := of_decide_eq_true (by first | (with_reducible assumption) | assumption)
                          have hx15 := bt_at x5_4 x8_3
                          replace p15 := eq_true p15
                          replace q15 := eq_true q15
                          have p17 : 0 ≤ (x8_3 : Int) := of_decide_eq_true (by first | (with_reducible assumption) | assumption)
                          have q17 : x8_3 < (x5_4.size : Int) := of_decide_eq_true (by first | (with_reducible assumption) | assumption)
                          have hx17 := bt_at x5_4 x8_3
                          replace p17 := eq_true p17
                          replace q17 := eq_true q17
                          go_wp2
                          go_roundg k3
                          case measure => have := HJ1.out; have := HJ4.out; have := HK3.out; omega
                          case rel => exact ⟨(wrap64 ((wrap64 (10 * x7_3)) + (((bt x5_4 x8_3) - 48) % 256))), (wrap64 (x8_3 + 1)), (by first | rfl | (simp; done) | (simp [*]; done)), (by first | rfl | (simp; done) | (simp [*]; done)), H', ⟨by have := HJ1.out; have := HJ4.out; have := HK3.out; omega⟩, ⟨by repeat (first | (with_reducible first | exact HB.out | apply below_alloc | apply pw_below_drewN | apply below_drew1) | exact HB.out)⟩⟩
                    · rw [if_neg c12] at H
                      exact absurd H (by simp)
                  · rw [if_neg c11] at H
                    exact absurd H (by simp)
                · rw [if_neg c10] at H
                  have c10b0 : decide (x8_3 < 8) = false := decide_eq_false c10
                  clear c10
                  replace H := Option.bind_eq_some_iff.mp H
                  obtain ⟨t259, A180, H⟩ := H
                  replace H : (if t259.toList = x5_4.toList then (some (x7_3, true, x6_4)) else (some (0, false, false))) = some (r1, r2, r3) := H
                  have A18 := Aside0.mk A180
                  clear A180
                  by_cases c19 : t259.toList = x5_4.toList
                  · rw [if_pos c19] at H
                    have c19b0 : (t259.toList == x5_4.toList) = true := beq_iff_eq.mpr c19
                    have c19b1 : (t259.toList != x5_4.toList) = false := bne_eq_false_iff_eq.mpr c19
                    clear c19
                    simp only [Option.some.injEq, Prod.mk.injEq] at H
                    obtain ⟨rfl, rfl, rfl⟩ := H
                    go_wp2_with (first | ((with_reducible refine gate_callee (f := 26) rfl ?_); refine goesL_ (some 46) rfl rfl Tryd.func26 (by kernel_rfl) rfl #[.int .i64 x7_3] rfl (by (try simp only [List.map_toArray, List.map_cons, List.map_nil]); first | done | rfl | (simp only [List.length_drop, List.length_take]; rfl)) ?_; (with_reducible refine (kauditref26_Name.calls k3 x7_3 t259 _ A18.out).mono ?_); rintro e w20 ⟨rfl, hb⟩; refine ⟨_, rfl, ?_⟩; have n0_ := Aside0.mk (below_step (by repeat (first | (with_reducible first | exact HB.out | apply below_alloc | apply pw_below_drewN | apply below_drew1) | exact HB.out)) hb); clear HB; have HB := n0_; clear n0_; (try clear hb); (try clear hb2); (try clear hk); (try clear hi)))
                    go_ret3
                    exact ⟨by first | rfl | (simp [errW_none, errW_some] <;> rfl) | (simp [*, errW_none, errW_some] <;> rfl), by repeat (first | (with_reducible first | exact HB.out | apply below_alloc | apply pw_below_drewN | apply below_drew1) | exact HB.out)⟩
                  · rw [if_neg c19] at H
                    have c19b0 : (t259.toList == x5_4.toList) = false := beq_eq_false_iff_ne.mpr c19
                    have c19b1 : (t259.toList != x5_4.toList) = true := bne_iff_ne.mpr c19
                    simp only [Option.some.injEq, Prod.mk.injEq] at H
                    obtain ⟨rfl, rfl, rfl⟩ := H
                    go_wp2_with (first | ((with_reducible refine gate_callee (f := 26) rfl ?_); refine goesL_ (some 46) rfl rfl Tryd.func26 (by kernel_rfl) rfl #[.int .i64 x7_3] rfl (by (try simp only [List.map_toArray, List.map_cons, List.map_nil]); first | done | rfl | (simp only [List.length_drop, List.length_take]; rfl)) ?_; (with_reducible refine (kauditref26_Name.calls k3 x7_3 t259 _ A18.out).mono ?_); rintro e w21 ⟨rfl, hb⟩; refine ⟨_, rfl, ?_⟩; have n0_ := Aside0.mk (below_step (by repeat (first | (with_reducible first | exact HB.out | apply below_alloc | apply pw_below_drewN | apply below_drew1) | exact HB.out)) hb); clear HB; have HB := n0_; clear n0_; (try clear hb); (try clear hb2); (try clear hk); (try clear hi)))
                    go_ret3
                    exact ⟨by first | rfl | (simp [errW_none, errW_some] <;> rfl) | (simp [*, errW_none, errW_some] <;> rfl), by repeat (first | (with_reducible first | exact HB.out | apply below_alloc | apply pw_below_drewN | apply below_drew1) | exact HB.out)⟩
          · rw [if_neg c9] at H
            have c9b0 : ((x5_4.size : Int) == 8) = false := beq_eq_false_iff_ne.mpr c9
            have c9b1 : ((x5_4.size : Int) != 8) = true := bne_iff_ne.mpr c9
            simp only [Option.some.injEq, Prod.mk.injEq] at H
            obtain ⟨rfl, rfl, rfl⟩ := H
            go_wp2
            go_ret3
            exact ⟨by first | rfl | (simp [errW_none, errW_some] <;> rfl) | (simp [*, errW_none, errW_some] <;> rfl), by repeat (first | (with_reducible first | exact HB.out | apply below_alloc | apply pw_below_drewN | apply below_drew1) | exact HB.out)⟩

/-! ### kauditref26_Packed: function 27 -/
def kauditref26_Packed.f (k : Nat) (a0 : Int) : Option (ByteArray) := (kauditref26_Name.f k a0).bind fun t260 => (if t260.toList = ([] : List UInt8) then (some (⟨#[]⟩ : ByteArray)) else (if t260.size + 2 ≤ 9223372036854775807 then (some (t260 ++ (⟨#[46, 122]⟩ : ByteArray))) else (none)))
theorem kauditref26_Packed.mono : ∀ a0 k, LeO (kauditref26_Packed.f k a0) (kauditref26_Packed.f (k + 1) a0) := by
  intro a0 k
  unfold kauditref26_Packed.f
  repeat' first
      | (with_reducible exact kauditref26_Name.mono _ _)
      | (with_reducible exact LeO.refl _)
      | (with_reducible exact LeO.none _)
      | (with_reducible refine LeO.ite ?_ ?_)
      | (with_reducible refine LeO.bind ?_ (fun _ => ?_))
      | exact kauditref26_Name.mono _ _
      | exact LeO.none _
      | refine LeO.ite ?_ ?_
      | refine LeO.bind ?_ (fun _ => ?_)
set_option maxHeartbeats 8000000 in
set_option maxRecDepth 100000 in
theorem kauditref26_Packed.calls (k : Nat) (a0 : Int) (r : ByteArray) (w : World) (h : kauditref26_Packed.f k a0 = some r) :
    Calls Tryd.prog 27 #[.int .i64 a0] w fun e w' => e = .returned (.string r) ∧ Below w.heap.size w w' := by
  have HB := Aside0.mk (Below.refl w.heap.size w)
  have H : ((kauditref26_Name.f k a0).bind fun t260 => (if t260.toList = ([] : List UInt8) then (some (⟨#[]⟩ : ByteArray)) else (if t260.size + 2 ≤ 9223372036854775807 then (some (t260 ++ (⟨#[46, 122]⟩ : ByteArray))) else (none)))) = some r := h
  clear h
  replace H := Option.bind_eq_some_iff.mp H
  obtain ⟨t260, A20, H⟩ := H
  replace H : (if t260.toList = ([] : List UInt8) then (some (⟨#[]⟩ : ByteArray)) else (if t260.size + 2 ≤ 9223372036854775807 then (some (t260 ++ (⟨#[46, 122]⟩ : ByteArray))) else (none))) = some r := H
  have A2 := Aside0.mk A20
  clear A20
  by_cases c3 : t260.toList = ([] : List UInt8)
  · rw [if_pos c3] at H
    have c3b0 : (t260.toList == ([] : List UInt8)) = true := beq_iff_eq.mpr c3
    have c3b1 : (t260.toList != ([] : List UInt8)) = false := bne_eq_false_iff_eq.mpr c3
    clear c3
    obtain rfl := Option.some.inj H
    go_enter Tryd.func27, Tryd.ntmps27
    go_wp2_with (first | ((with_reducible refine gate_callee (f := 26) rfl ?_); refine goesL_ (some 5) rfl rfl Tryd.func26 (by kernel_rfl) rfl #[.int .i64 a0] rfl (by (try simp only [List.map_toArray, List.map_cons, List.map_nil]); first | done | rfl | (simp only [List.length_drop, List.length_take]; rfl)) ?_; (with_reducible refine (kauditref26_Name.calls k a0 t260 _ A2.out).mono ?_); rintro e w4 ⟨rfl, hb⟩; refine ⟨_, rfl, ?_⟩; have n0_ := Aside0.mk (below_step (by repeat (first | (with_reducible first | exact HB.out | apply below_alloc | apply pw_below_drewN | apply below_drew1) | exact HB.out)) hb); clear HB; have HB := n0_; clear n0_; (try clear hb); (try clear hb2); (try clear hk); (try clear hi)))
    go_ret
    exact ⟨by first | rfl | (simp [errW_none, errW_some] <;> rfl) | (simp [*, errW_none, errW_some] <;> rfl), by repeat (first | (with_reducible first | exact HB.out | apply below_alloc | apply pw_below_drewN | apply below_drew1) | exact HB.out)⟩
  · rw [if_neg c3] at H
    have c3b0 : (t260.toList == ([] : List UInt8)) = false := beq_eq_false_iff_ne.mpr c3
    have c3b1 : (t260.toList != ([] : List UInt8)) = true := bne_iff_ne.mpr c3
    by_cases c5 : t260.size + 2 ≤ 9223372036854775807
    · rw [if_pos c5] at H
      have c5b0 := eq_true c5
      have c5b1 : decide (t260.size + 2 ≤ 9223372036854775807) = true := decide_eq_true c5
      try have c5b2 : (9223372036854775807 < t260.size + 2) = False := eq_false (Nat.not_lt.2 c5)
      obtain rfl := Option.some.inj H
      go_enter Tryd.func27, Tryd.ntmps27
      go_wp2_with (first | ((with_reducible refine gate_callee (f := 26) rfl ?_); refine goesL_ (some 5) rfl rfl Tryd.func26 (by kernel_rfl) rfl #[.int .i64 a0] rfl (by (try simp only [List.map_toArray, List.map_cons, List.map_nil]); first | done | rfl | (simp only [List.length_drop, List.length_take]; rfl)) ?_; (with_reducible refine (kauditref26_Name.calls k a0 t260 _ A2.out).mono ?_); rintro e w6 ⟨rfl, hb⟩; refine ⟨_, rfl, ?_⟩; have n0_ := Aside0.mk (below_step (by repeat (first | (with_reducible first | exact HB.out | apply below_alloc | apply pw_below_drewN | apply below_drew1) | exact HB.out)) hb); clear HB; have HB := n0_; clear n0_; (try clear hb); (try clear hb2); (try clear hk); (try clear hi)))
      go_ret
      exact ⟨by first | rfl | (simp [errW_none, errW_some] <;> rfl) | (simp [*, errW_none, errW_some] <;> rfl), by repeat (first | (with_reducible first | exact HB.out | apply below_alloc | apply pw_below_drewN | apply below_drew1) | exact HB.out)⟩
    · rw [if_neg c5] at H
      exact absurd H (by simp)

/-! ### kauditlaw26_RotateNames: function 6 -/
def kauditlaw26_RotateNames.l0 : Nat → Int → Int → List ByteArray → Int → Int → Option (Bool)
  | 0, _, _, _, _, _ => none
  | k + 1, x0, x9, x32, x33, x34 => if x34 < x33 then (if 0 ≤ x34 then (if x34 < (x32.length : Int) then ((rotate_Number.f k (rdOf ByteArray.empty x32 x34)).bind fun bt268 => ((kauditref26_Number.f k (rdOf ByteArray.empty x32 x34)).bind fun bt271 => (if bt268.1 = bt271.1 then (if (bt268.2.1 != bt271.2.1) = true then (some false) else (if (bt268.2.2 != bt271.2.2) = true then (some false) else (kauditlaw26_RotateNames.l0 k x0 x9 x32 x33 (wrap64 (x34 + 1))))) else (some false)))) else (none)) else (none)) else ((rotate_Name.f x0).bind fun t274 => ((kauditref26_Name.f k x0).bind fun t275 => (if t274.toList = t275.toList then ((rotate_Packed.f x0).bind fun t276 => ((kauditref26_Packed.f k x0).bind fun t277 => (if t276.toList = t277.toList then ((rotate_Name.f x9).bind fun t278 => ((kauditref26_Name.f k x9).bind fun t279 => (if t278.toList = t279.toList then ((rotate_Packed.f x9).bind fun t280 => ((kauditref26_Packed.f k x9).bind fun t281 => (if t280.toList = t281.toList then ((kauditlaw26_begun.f k).bind fun t282 => (some t282)) else (some false)))) else (some false)))) else (some false)))) else (some false))))
def kauditlaw26_RotateNames.f (k : Nat) (a0 : Int) (a1 : Int) (a2 : ByteArray) (a3 : ByteArray) : Option (Bool) := (rotate_Name.f (Int.tmod (wrap64 (a1)) 1003)).bind fun t261 => ((rotate_Packed.f (Int.tmod (wrap64 (a1)) 1003)).bind fun t262 => ((rotate_Name.f (Int.tmod (wrap64 (a1)) 1003)).bind fun t263 => (if t263.size + a3.size ≤ 9223372036854775807 then (if 4 + a3.size ≤ 9223372036854775807 then ((some (([a2, t261, t262, t263 ++ a3, (⟨#[108, 111, 103, 45]⟩ : ByteArray) ++ a3] : List ByteArray) : List ByteArray)).bind fun y264 => (kauditlaw26_RotateNames.l0 k a0 (Int.tmod (wrap64 (a1)) 1003) y264 (y264.length : Int) 0)) else (none)) else (none))))
theorem kauditlaw26_RotateNames.mono_l : ∀ k, (∀ y0 y1 y2 y3 y4, LeO (kauditlaw26_RotateNames.l0 k y0 y1 y2 y3 y4) (kauditlaw26_RotateNames.l0 (k + 1) y0 y1 y2 y3 y4))
  | 0 => fun _ _ _ _ _ r h => by simp [kauditlaw26_RotateNames.l0] at h
  | k + 1 => by
    have ih0 := kauditlaw26_RotateNames.mono_l k
    · intro y0 y1 y2 y3 y4
      unfold kauditlaw26_RotateNames.l0
      repeat' first
      | (with_reducible exact ih0 _ _ _ _ _)
      | (with_reducible exact kauditlaw26_begun.mono _)
      | (with_reducible exact kauditref26_Name.mono _ _)
      | (with_reducible exact kauditref26_Number.mono _ _)
      | (with_reducible exact kauditref26_Packed.mono _ _)
      | (with_reducible exact rotate_Number.mono _ _)
      | (with_reducible exact LeO.refl _)
      | (with_reducible exact LeO.none _)
      | (with_reducible refine LeO.ite ?_ ?_)
      | (with_reducible refine LeO.bind ?_ (fun _ => ?_))
      | exact ih0 _ _ _ _ _
      | exact kauditlaw26_begun.mono _
      | exact kauditref26_Name.mono _ _
      | exact kauditref26_Number.mono _ _
      | exact kauditref26_Packed.mono _ _
      | exact rotate_Number.mono _ _
      | exact LeO.none _
      | refine LeO.ite ?_ ?_
      | refine LeO.bind ?_ (fun _ => ?_)
theorem kauditlaw26_RotateNames.mono : ∀ a0 a1 a2 a3 k, LeO (kauditlaw26_RotateNames.f k a0 a1 a2 a3) (kauditlaw26_RotateNames.f (k + 1) a0 a1 a2 a3) := by
  intro a0 a1 a2 a3 k
  have ih0 := kauditlaw26_RotateNames.mono_l k
  unfold kauditlaw26_RotateNames.f
  repeat' first
      | (with_reducible exact ih0 _ _ _ _ _)
      | (with_reducible exact kauditlaw26_begun.mono _)
      | (with_reducible exact kauditref26_Name.mono _ _)
      | (with_reducible exact kauditref26_Number.mono _ _)
      | (with_reducible exact kauditref26_Packed.mono _ _)
      | (with_reducible exact rotate_Number.mono _ _)
      | (with_reducible exact LeO.refl _)
      | (with_reducible exact LeO.none _)
      | (with_reducible refine LeO.ite ?_ ?_)
      | (with_reducible refine LeO.bind ?_ (fun _ => ?_))
      | exact ih0 _ _ _ _ _
      | exact kauditlaw26_begun.mono _
      | exact kauditref26_Name.mono _ _
      | exact kauditref26_Number.mono _ _
      | exact kauditref26_Packed.mono _ _
      | exact rotate_Number.mono _ _
      | exact LeO.none _
      | refine LeO.ite ?_ ?_
      | refine LeO.bind ?_ (fun _ => ?_)
set_option maxHeartbeats 8000000 in
set_option maxRecDepth 100000 in
theorem kauditlaw26_RotateNames.calls (k : Nat) (a0 : Int) (a1 : Int) (a2 : ByteArray) (a3 : ByteArray) (r : Bool) (w : World) (hT : TabOk w) (h : kauditlaw26_RotateNames.f k a0 a1 a2 a3 = some r) :
    Calls Tryd.prog 6 #[.int .i64 a0, .int .u16 a1, .string a2, .string a3] w fun e w' => e = .returned (.bool r) ∧ Below w.heap.size w w' := by
  have HT := Aside0.mk hT
  clear hT
  have HB := Aside0.mk (Below.refl w.heap.size w)
  have H : ((rotate_Name.f (Int.tmod (wrap64 (a1)) 1003)).bind fun t261 => ((rotate_Packed.f (Int.tmod (wrap64 (a1)) 1003)).bind fun t262 => ((rotate_Name.f (Int.tmod (wrap64 (a1)) 1003)).bind fun t263 => (if t263.size + a3.size ≤ 9223372036854775807 then (if 4 + a3.size ≤ 9223372036854775807 then ((some (([a2, t261, t262, t263 ++ a3, (⟨#[108, 111, 103, 45]⟩ : ByteArray) ++ a3] : List ByteArray) : List ByteArray)).bind fun y264 => (kauditlaw26_RotateNames.l0 k a0 (Int.tmod (wrap64 (a1)) 1003) y264 (y264.length : Int) 0)) else (none)) else (none))))) = some r := h
  clear h
  replace H := Option.bind_eq_some_iff.mp H
  obtain ⟨t261, A50, H⟩ := H
  replace H : ((rotate_Packed.f (Int.tmod (wrap64 (a1)) 1003)).bind fun t262 => ((rotate_Name.f (Int.tmod (wrap64 (a1)) 1003)).bind fun t263 => (if t263.size + a3.size ≤ 9223372036854775807 then (if 4 + a3.size ≤ 9223372036854775807 then ((some (([a2, t261, t262, t263 ++ a3, (⟨#[108, 111, 103, 45]⟩ : ByteArray) ++ a3] : List ByteArray) : List ByteArray)).bind fun y264 => (kauditlaw26_RotateNames.l0 k a0 (Int.tmod (wrap64 (a1)) 1003) y264 (y264.length : Int) 0)) else (none)) else (none)))) = some r := H
  have A5 := Aside0.mk A50
  clear A50
  replace H := Option.bind_eq_some_iff.mp H
  obtain ⟨t262, A60, H⟩ := H
  replace H : ((rotate_Name.f (Int.tmod (wrap64 (a1)) 1003)).bind fun t263 => (if t263.size + a3.size ≤ 9223372036854775807 then (if 4 + a3.size ≤ 9223372036854775807 then ((some (([a2, t261, t262, t263 ++ a3, (⟨#[108, 111, 103, 45]⟩ : ByteArray) ++ a3] : List ByteArray) : List ByteArray)).bind fun y264 => (kauditlaw26_RotateNames.l0 k a0 (Int.tmod (wrap64 (a1)) 1003) y264 (y264.length : Int) 0)) else (none)) else (none))) = some r := H
  have A6 := Aside0.mk A60
  clear A60
  replace H := Option.bind_eq_some_iff.mp H
  obtain ⟨t263, A70, H⟩ := H
  replace H : (if t263.size + a3.size ≤ 9223372036854775807 then (if 4 + a3.size ≤ 9223372036854775807 then ((some (([a2, t261, t262, t263 ++ a3, (⟨#[108, 111, 103, 45]⟩ : ByteArray) ++ a3] : List ByteArray) : List ByteArray)).bind fun y264 => (kauditlaw26_RotateNames.l0 k a0 (Int.tmod (wrap64 (a1)) 1003) y264 (y264.length : Int) 0)) else (none)) else (none)) = some r := H
  have A7 := Aside0.mk A70
  clear A70
  by_cases c8 : t263.size + a3.size ≤ 9223372036854775807
  · rw [if_pos c8] at H
    have c8b0 := eq_true c8
    have c8b1 : decide (t263.size + a3.size ≤ 9223372036854775807) = true := decide_eq_true c8
    try have c8b2 : (9223372036854775807 < t263.size + a3.size) = False := eq_false (Nat.not_lt.2 c8)
    by_cases c9 : 4 + a3.size ≤ 9223372036854775807
    · rw [if_pos c9] at H
      have c9b0 := eq_true c9
      have c9b1 : decide (4 + a3.size ≤ 9223372036854775807) = true := decide_eq_true c9
      try have c9b2 : (9223372036854775807 < 4 + a3.size) = False := eq_false (Nat.not_lt.2 c9)
      obtain ⟨y264, hy264⟩ : ∃ y_ : List ByteArray, y_ = (([a2, t261, t262, t263 ++ a3, (⟨#[108, 111, 103, 45]⟩ : ByteArray) ++ a3] : List ByteArray)) := ⟨_, rfl⟩
      replace H : (kauditlaw26_RotateNames.l0 k a0 (Int.tmod (wrap64 (a1)) 1003) y264 (y264.length : Int) 0) = some r := by first | (rw [hy264]; with_reducible exact H) | (have H2_ := (Option.bind_some _ _).symm.trans H; rw [hy264]; with_reducible exact H2_) | (have H2_ := (Option.bind_some _ _).symm.trans H; with_reducible exact H2_) | with_reducible exact H | (rw [hy264]; exact H) | exact H
      have Ny264 := Aside0.mk hy264
      clear hy264
      have H' := Aside0.mk H
      clear H
      go_enter Tryd.func6, Tryd.ntmps6
      go_wp2_with (first | ((with_reducible refine gate_callee (f := 22) rfl ?_); refine goesL_ (some 23) rfl rfl Tryd.func22 (by kernel_rfl) rfl #[.int .i64 (Int.tmod (wrap64 (a1)) 1003)] rfl (by (try simp only [List.map_toArray, List.map_cons, List.map_nil]); first | done | rfl | (simp only [List.length_drop, List.length_take]; rfl)) ?_; (with_reducible refine (rotate_Name.calls (Int.tmod (wrap64 (a1)) 1003) t261 _ ?side1 A5.out).mono ?_); (case side1 => exact TabOk.below HT.out (by repeat (first | (with_reducible first | exact HB.out | apply below_alloc | apply pw_below_drewN | apply below_drew1) | exact HB.out))); rintro e w10 ⟨rfl, hb⟩; refine ⟨_, rfl, ?_⟩; have n0_ := Aside0.mk (below_step (by repeat (first | (with_reducible first | exact HB.out | apply below_alloc | apply pw_below_drewN | apply below_drew1) | exact HB.out)) hb); clear HB; have HB := n0_; clear n0_; (try clear hb); (try clear hb2); (try clear hk); (try clear hi)) | ((with_reducible refine gate_callee (f := 23) rfl ?_); refine goesL_ (some 25) rfl rfl Tryd.func23 (by kernel_rfl) rfl #[.int .i64 (Int.tmod (wrap64 (a1)) 1003)] rfl (by (try simp only [List.map_toArray, List.map_cons, List.map_nil]); first | done | rfl | (simp only [List.length_drop, List.length_take]; rfl)) ?_; (with_reducible refine (rotate_Packed.calls (Int.tmod (wrap64 (a1)) 1003) t262 _ ?side1 A6.out).mono ?_); (case side1 => exact TabOk.below HT.out (by repeat (first | (with_reducible first | exact HB.out | apply below_alloc | apply pw_below_drewN | apply below_drew1) | exact HB.out))); rintro e w11 ⟨rfl, hb⟩; refine ⟨_, rfl, ?_⟩; have n0_ := Aside0.mk (below_step (by repeat (first | (with_reducible first | exact HB.out | apply below_alloc | apply pw_below_drewN | apply below_drew1) | exact HB.out)) hb); clear HB; have HB := n0_; clear n0_; (try clear hb); (try clear hb2); (try clear hk); (try clear hi)) | ((with_reducible refine gate_callee (f := 22) rfl ?_); refine goesL_ (some 27) rfl rfl Tryd.func22 (by kernel_rfl) rfl #[.int .i64 (Int.tmod (wrap64 (a1)) 1003)] rfl (by (try simp only [List.map_toArray, List.map_cons, List.map_nil]); first | done | rfl | (simp only [List.length_drop, List.length_take]; rfl)) ?_; (with_reducible refine (rotate_Name.calls (Int.tmod (wrap64 (a1)) 1003) t263 _ ?side1 A7.out).mono ?_); (case side1 => exact TabOk.below HT.out (by repeat (first | (with_reducible first | exact HB.out | apply below_alloc | apply pw_below_drewN | apply below_drew1) | exact HB.out))); rintro e w12 ⟨rfl, hb⟩; refine ⟨_, rfl, ?_⟩; have n0_ := Aside0.mk (below_step (by repeat (first | (with_reducible first | exact HB.out | apply below_alloc | apply pw_below_drewN | apply below_drew1) | exact HB.out)) hb); clear HB; have HB := n0_; clear n0_; (try clear hb); (try clear hb2); (try clear hk); (try clear hi)) | ((with_reducible refine gate_dst (N := 32) rfl ?_); refine Kd.R_lit Kd.string _ 9 ?hg (N := 32) ?hd (xs := ([a2, t261, t262, t263 ++ a3, (⟨#[108, 111, 103, 45]⟩ : ByteArray) ++ a3] : List ByteArray)) (inner := [.string a2, .string t261, .string t262, .string (t263 ++ a3), .string ((⟨#[108, 111, 103, 45]⟩ : ByteArray) ++ a3)]) (ok := fun _ => True) (okp := fun _ => True) ?hr ?hp (fun _ hk => hk) trivial (Below.refl _ _) (Nat.le_refl _) (by simp) ?_; (case hd => rfl); (case hg => rfl); (case hr => first | (go_simp; done) | (go_simp; rfl)); (case hp => exact (Reps.one (show Kd.M Kd.string _ _ _ a2 [.string a2] from rfl) (Reps.one (show Kd.M Kd.string _ _ _ t261 [.string t261] from rfl) (Reps.one (show Kd.M Kd.string _ _ _ t262 [.string t262] from rfl) (Reps.one (show Kd.M Kd.string _ _ _ (t263 ++ a3) [.string (t263 ++ a3)] from rfl) (Reps.one (show Kd.M Kd.string _ _ _ ((⟨#[108, 111, 103, 45]⟩ : ByteArray) ++ a3) [.string ((⟨#[108, 111, 103, 45]⟩ : ByteArray) ++ a3)] from rfl) (Reps.none _ _))))))); intro v265 w13 ho14 hb hg_ hnew_; clear hg_ hnew_; (first | rw [← Ny264.out] at ho14 | (simp only [Int.reduceToNat] at ho14; rw [← Ny264.out] at ho14)); have n0_ := Aside0.mk (Kd.R_lower ho14 (below_size (by repeat (first | (with_reducible first | exact HB.out | apply below_alloc | apply pw_below_drewN | apply below_drew1) | exact HB.out)))); have n1_ := Aside0.mk (below_step (by repeat (first | (with_reducible first | exact HB.out | apply below_alloc | apply pw_below_drewN | apply below_drew1) | exact HB.out)) hb); clear HB; have HO266 := n0_; have HB := n1_; clear n0_ n1_; clear hb ho14; obtain ⟨Ao15, co15, eo15⟩ := Kd.R_slice HO266.out; subst eo15))
      go_loopg [34] k (fun kq v34 w' => ∃ (x34_1 : Int), v34 = .int .i64 x34_1 ∧ Aside0 (kauditlaw26_RotateNames.l0 kq a0 (Int.tmod (wrap64 (a1)) 1003) y264 (y264.length : Int) x34_1 = some r) ∧ Aside0 (kq ≤ k) ∧ Aside0 (Kd.R Kd.string 9 w' w.heap.size (fun _ => True) (.slice Ao15 y264.length co15) y264) ∧ Aside0 (Below w.heap.size w w'))
      case atStart => exact ⟨(0), (by first | rfl | (simp; done) | (simp [*]; done)), H', ⟨Nat.le_refl _⟩, ⟨by (with_reducible repeat (first | apply Kd.R_alloc | apply Kd.R_drewN | apply Kd.R_drew)); exact HO266.out⟩, ⟨by repeat (first | (with_reducible first | exact HB.out | apply below_alloc | apply pw_below_drewN | apply below_drew1) | exact HB.out)⟩⟩
      case round =>
        clear H'
        try clear c2
        try clear p2
        try clear c6
        try clear p6
        try clear c8
        try clear c8b0
        try clear c8b1
        try clear c8b2
        try clear c9
        try clear c9b0
        try clear c9b1
        try clear c9b2
        obtain ⟨x34_1, rfl, HA, HK1, HO_32, HB⟩ := hrel
        cases gk with
        | zero => exact absurd HA.out (by simp [kauditlaw26_RotateNames.l0])
        | succ k1 =>
          have H := HA.out
          clear HA
          simp only [kauditlaw26_RotateNames.l0] at H
          by_cases c16 : x34_1 < (y264.length : Int)
          · rw [if_pos c16] at H
            have c16b0 : decide (x34_1 < (y264.length : Int)) = true := decide_eq_true c16
            clear c16
            by_cases c17 : 0 ≤ x34_1
            · rw [if_pos c17] at H
              have c17b0 : decide (0 ≤ x34_1) = true := decide_eq_true c17
              clear c17
              by_cases c18 : x34_1 < (y264.length : Int)
              · rw [if_pos c18] at H
                have c18b0 : decide (x34_1 < (y264.length : Int)) = true := decide_eq_true c18
                clear c18
                replace H := Option.bind_eq_some_iff.mp H
                obtain ⟨⟨t268, t269, t270⟩, A190, H⟩ := H
                replace H : ((kauditref26_Number.f k1 (rdOf ByteArray.empty y264 x34_1)).bind fun bt271 => (if t268 = bt271.1 then (if (t269 != bt271.2.1) = true then (some false) else (if (t270 != bt271.2.2) = true then (some false) else (kauditlaw26_RotateNames.l0 k1 a0 (Int.tmod (wrap64 (a1)) 1003) y264 (y264.length : Int) (wrap64 (x34_1 + 1))))) else (some false))) = some r := H
                have A19 := Aside0.mk A190
                clear A190
                replace H := Option.bind_eq_some_iff.mp H
                obtain ⟨⟨t271, t272, t273⟩, A200, H⟩ := H
                replace H : (if t268 = t271 then (if (t269 != t272) = true then (some false) else (if (t270 != t273) = true then (some false) else (kauditlaw26_RotateNames.l0 k1 a0 (Int.tmod (wrap64 (a1)) 1003) y264 (y264.length : Int) (wrap64 (x34_1 + 1))))) else (some false)) = some r := H
                have A20 := Aside0.mk A200
                clear A200
                by_cases c21 : t268 = t271
                · rw [if_pos c21] at H
                  have c21b0 : (t268 == t271) = true := beq_iff_eq.mpr c21
                  have c21b1 : (t268 != t271) = false := bne_eq_false_iff_eq.mpr c21
                  clear c21
                  by_cases c22 : (t269 != t272) = true
                  · rw [if_pos c22] at H
                    have c22b0 : (t269 != t272) = true := c22
                    (try (have c22b1 : decide (t269 = t272) = false := by simpa using c22))
                    (try (have c22b2 : (t269 == t272) = false := by simpa using c22))
                    (try (have c22b3 : ¬ (t269 = t272) := by simpa using c22))
                    clear c22
                    obtain rfl := Option.some.inj H
                    have p267 : 0 ≤ (x34_1 : Int) := of_decide_eq_true (by first | (with_reducible assumption) | assumption)
                    have q267 : x34_1 < (y264.length : Int) := of_decide_eq_true (by first | (with_reducible assumption) | assumption)
                    obtain ⟨ad267, e267, hx267_0⟩ := Kd.at_string (Kd.R_reads' HO_32.out).2.2 x34_1 p267 q267
                    cases e267
                    replace p267 := eq_true p267
                    replace q267 := eq_true q267
                    go_wp2_with (first | ((with_reducible refine gate_callee (f := 24) rfl ?_); refine goesL_ (some 40) rfl rfl Tryd.func24 (by kernel_rfl) rfl #[.string (rdOf ByteArray.empty y264 x34_1)] rfl (by (try simp only [List.map_toArray, List.map_cons, List.map_nil]); first | done | rfl | (simp only [List.length_drop, List.length_take]; rfl)) ?_; (with_reducible refine (rotate_Number.calls k1 (rdOf ByteArray.empty y264 x34_1) t268 t269 t270 _ A19.out).mono ?_); rintro e w' ⟨rfl, ⟨nd, rfl⟩⟩; refine ⟨_, rfl, ?_⟩) | ((with_reducible refine gate_callee (f := 25) rfl ?_); refine goesL_ (some 46) rfl rfl Tryd.func25 (by kernel_rfl) rfl #[.string (rdOf ByteArray.empty y264 x34_1)] rfl (by (try simp only [List.map_toArray, List.map_cons, List.map_nil]); first | done | rfl | (simp only [List.length_drop, List.length_take]; rfl)) ?_; (with_reducible refine (kauditref26_Number.calls k1 (rdOf ByteArray.empty y264 x34_1) t271 t272 t273 _ A20.out).mono ?_); rintro e w23 ⟨rfl, hb⟩; refine ⟨_, rfl, ?_⟩; have n0_ := Aside0.mk (Kd.R_below (by (with_reducible repeat (first | apply Kd.R_alloc | apply Kd.R_drewN | apply Kd.R_drew)); exact HO_32.out) hb); have n1_ := Aside0.mk (below_step (by repeat (first | (with_reducible first | exact HB.out | apply below_alloc | apply pw_below_drewN | apply below_drew1) | exact HB.out)) hb); clear HO_32; clear HB; have HO_32 := n0_; have HB := n1_; clear n0_ n1_; (try clear hb); (try clear hb2); (try clear hk); (try clear hi)))
                    go_ret
                    exact ⟨by first | rfl | (simp [errW_none, errW_some] <;> rfl) | (simp [*, errW_none, errW_some] <;> rfl), by repeat (first | (with_reducible first | exact HB.out | apply below_alloc | apply pw_below_drewN | apply below_drew1) | exact HB.out)⟩
                  · rw [if_neg c22] at H
                    have c22b0 : (t269 != t272) = false := by simpa using c22
                    (try (have c22b1 : decide (t269 = t272) = true := by simpa using c22))
                    (try (have c22b2 : (t269 == t272) = true := by simpa using c22))
                    clear c22
                    by_cases c24 : (t270 != t273) = true
                    · rw [if_pos c24] at H
                      have c24b0 : (t270 != t273) = true := c24
                      (try (have c24b1 : decide (t270 = t273) = false := by simpa using c24))
                      (try (have c24b2 : (t270 == t273) = false := by simpa using c24))
                      (try (have c24b3 : ¬ (t270 = t273) := by simpa using c24))
                      clear c24
                      obtain rfl := Option.some.inj H
                      have p267 : 0 ≤ (x34_1 : Int) := of_decide_eq_true (by first | (with_reducible assumption) | assumption)
                      have q267 : x34_1 < (y264.length : Int) := of_decide_eq_true (by first | (with_reducible assumption) | assumption)
                      obtain ⟨ad267, e267, hx267_0⟩ := Kd.at_string (Kd.R_reads' HO_32.out).2.2 x34_1 p267 q267
                      cases e267
                      replace p267 := eq_true p267
                      replace q267 := eq_true q267
                      go_wp2_with (first | ((with_reducible refine gate_callee (f := 24) rfl ?_); refine goesL_ (some 40) rfl rfl Tryd.func24 (by kernel_rfl) rfl #[.string (rdOf ByteArray.empty y264 x34_1)] rfl (by (try simp only [List.map_toArray, List.map_cons, List.map_nil]); first | done | rfl | (simp only [List.length_drop, List.length_take]; rfl)) ?_; (with_reducible refine (rotate_Number.calls k1 (rdOf ByteArray.empty y264 x34_1) t268 t269 t270 _ A19.out).mono ?_); rintro e w' ⟨rfl, ⟨nd, rfl⟩⟩; refine ⟨_, rfl, ?_⟩) | ((with_reducible refine gate_callee (f := 25) rfl ?_); refine goesL_ (some 46) rfl rfl Tryd.func25 (by kernel_rfl) rfl #[.string (rdOf ByteArray.empty y264 x34_1)] rfl (by (try simp only [List.map_toArray, List.map_cons, List.map_nil]); first | done | rfl | (simp only [List.length_drop, List.length_take]; rfl)) ?_; (with_reducible refine (kauditref26_Number.calls k1 (rdOf ByteArray.empty y264 x34_1) t271 t272 t273 _ A20.out).mono ?_); rintro e w25 ⟨rfl, hb⟩; refine ⟨_, rfl, ?_⟩; have n0_ := Aside0.mk (Kd.R_below (by (with_reducible repeat (first | apply Kd.R_alloc | apply Kd.R_drewN | apply Kd.R_drew)); exact HO_32.out) hb); have n1_ := Aside0.mk (below_step (by repeat (first | (with_reducible first | exact HB.out | apply below_alloc | apply pw_below_drewN | apply below_drew1) | exact HB.out)) hb); clear HO_32; clear HB; have HO_32 := n0_; have HB := n1_; clear n0_ n1_; (try clear hb); (try clear hb2); (try clear hk); (try clear hi)))
                      go_ret
                      exact ⟨by first | rfl | (simp [errW_none, errW_some] <;> rfl) | (simp [*, errW_none, errW_some] <;> rfl), by repeat (first | (with_reducible first | exact HB.out | apply below_alloc | apply pw_below_drewN | apply below_drew1) | exact HB.out)⟩
                    · rw [if_neg c24] at H
                      have c24b0 : (t270 != t273) = false := by simpa using c24
                      (try (have c24b1 : decide (t270 = t273) = true := by simpa using c24))
                      (try (have c24b2 : (t270 == t273) = true := by simpa using c24))
                      clear c24
                      have H' := Aside0.mk H
                      clear H
                      have p267 : 0 ≤ (x34_1 : Int) := of_decide_eq_true (by first | (with_reducible assumption) | assumption)
                      have q267 : x34_1 < (y264.length : Int) := of_decide_eq_true (by first | (with_reducible assumption) | assumption)
                      obtain ⟨ad267, e267, hx267_0⟩ := Kd.at_string (Kd.R_reads' HO_32.out).2.2 x34_1 p267 q267
                      cases e267
                      replace p267 := eq_true p267
                      replace q267 := eq_true q267
                      go_wp2_with (first | ((with_reducible refine gate_callee (f := 24) rfl ?_); refine goesL_ (some 40) rfl rfl Tryd.func24 (by kernel_rfl) rfl #[.string (rdOf ByteArray.empty y264 x34_1)] rfl (by (try simp only [List.map_toArray, List.map_cons, List.map_nil]); first | done | rfl | (simp only [List.length_drop, List.length_take]; rfl)) ?_; (with_reducible refine (rotate_Number.calls k1 (rdOf ByteArray.empty y264 x34_1) t268 t269 t270 _ A19.out).mono ?_); rintro e w' ⟨rfl, ⟨nd, rfl⟩⟩; refine ⟨_, rfl, ?_⟩) | ((with_reducible refine gate_callee (f := 25) rfl ?_); refine goesL_ (some 46) rfl rfl Tryd.func25 (by kernel_rfl) rfl #[.string (rdOf ByteArray.empty y264 x34_1)] rfl (by (try simp only [List.map_toArray, List.map_cons, List.map_nil]); first | done | rfl | (simp only [List.length_drop, List.length_take]; rfl)) ?_; (with_reducible refine (kauditref26_Number.calls k1 (rdOf ByteArray.empty y264 x34_1) t271 t272 t273 _ A20.out).mono ?_); rintro e w26 ⟨rfl, hb⟩; refine ⟨_, rfl, ?_⟩; have n0_ := Aside0.mk (Kd.R_below (by (with_reducible repeat (first | apply Kd.R_alloc | apply Kd.R_drewN | apply Kd.R_drew)); exact HO_32.out) hb); have n1_ := Aside0.mk (below_step (by repeat (first | (with_reducible first | exact HB.out | apply below_alloc | apply pw_below_drewN | apply below_drew1) | exact HB.out)) hb); clear HO_32; clear HB; have HO_32 := n0_; have HB := n1_; clear n0_ n1_; (try clear hb); (try clear hb2); (try clear hk); (try clear hi)))
                      go_roundg k1
                      case measure => have := HK1.out; omega
                      case rel => exact ⟨(wrap64 (x34_1 + 1)), (by first | rfl | (simp; done) | (simp [*]; done)), H', ⟨by have := HK1.out; omega⟩, ⟨by (with_reducible repeat (first | apply Kd.R_alloc | apply Kd.R_drewN | apply Kd.R_drew)); exact HO_32.out⟩, ⟨by repeat (first | (with_reducible first | exact HB.out | apply below_alloc | apply pw_below_drewN | apply below_drew1) | exact HB.out)⟩⟩
                · rw [if_neg c21] at H
                  have c21b0 : (t268 == t271) = false := beq_eq_false_iff_ne.mpr c21
                  have c21b1 : (t268 != t271) = true := bne_iff_ne.mpr c21
                  obtain rfl := Option.some.inj H
                  have p267 : 0 ≤ (x34_1 : Int) := of_decide_eq_true (by first | (with_reducible assumption) | assumption)
                  have q267 : x34_1 < (y264.length : Int) := of_decide_eq_true (by first | (with_reducible assumption) | assumption)
                  obtain ⟨ad267, e267, hx267_0⟩ := Kd.at_string (Kd.R_reads' HO_32.out).2.2 x34_1 p267 q267
                  cases e267
                  replace p267 := eq_true p267
                  replace q267 := eq_true q267
                  go_wp2_with (first | ((with_reducible refine gate_callee (f := 24) rfl ?_); refine goesL_ (some 40) rfl rfl Tryd.func24 (by kernel_rfl) rfl #[.string (rdOf ByteArray.empty y264 x34_1)] rfl (by (try simp only [List.map_toArray, List.map_cons, List.map_nil]); first | done | rfl | (simp only [List.length_drop, List.length_take]; rfl)) ?_; (with_reducible refine (rotate_Number.calls k1 (rdOf ByteArray.empty y264 x34_1) t268 t269 t270 _ A19.out).mono ?_); rintro e w' ⟨rfl, ⟨nd, rfl⟩⟩; refine ⟨_, rfl, ?_⟩) | ((with_reducible refine gate_callee (f := 25) rfl ?_); refine goesL_ (some 46) rfl rfl Tryd.func25 (by kernel_rfl) rfl #[.string (rdOf ByteArray.empty y264 x34_1)] rfl (by (try simp only [List.map_toArray, List.map_cons, List.map_nil]); first | done | rfl | (simp only [List.length_drop, List.length_take]; rfl)) ?_; (with_reducible refine (kauditref26_Number.calls k1 (rdOf ByteArray.empty y264 x34_1) t271 t272 t273 _ A20.out).mono ?_); rintro e w27 ⟨rfl, hb⟩; refine ⟨_, rfl, ?_⟩; have n0_ := Aside0.mk (Kd.R_below (by (with_reducible repeat (first | apply Kd.R_alloc | apply Kd.R_drewN | apply Kd.R_drew)); exact HO_32.out) hb); have n1_ := Aside0.mk (below_step (by repeat (first | (with_reducible first | exact HB.out | apply below_alloc | apply pw_below_drewN | apply below_drew1) | exact HB.out)) hb); clear HO_32; clear HB; have HO_32 := n0_; have HB := n1_; clear n0_ n1_; (try clear hb); (try clear hb2); (try clear hk); (try clear hi)))
                  go_ret
                  exact ⟨by first | rfl | (simp [errW_none, errW_some] <;> rfl) | (simp [*, errW_none, errW_some] <;> rfl), by repeat (first | (with_reducible first | exact HB.out | apply below_alloc | apply pw_below_drewN | apply below_drew1) | exact HB.out)⟩
              · rw [if_neg c18] at H
                exact absurd H (by simp)
            · rw [if_neg c17] at H
              exact absurd H (by simp)
          · rw [if_neg c16] at H
            have c16b0 : decide (x34_1 < (y264.length : Int)) = false := decide_eq_false c16
            clear c16
            replace H := Option.bind_eq_some_iff.mp H
            obtain ⟨t274, A280, H⟩ := H
            replace H : ((kauditref26_Name.f k1 a0).bind fun t275 => (if t274.toList = t275.toList then ((rotate_Packed.f a0).bind fun t276 => ((kauditref26_Packed.f k1 a0).bind fun t277 => (if t276.toList = t277.toList then ((rotate_Name.f (Int.tmod (wrap64 (a1)) 1003)).bind fun t278 => ((kauditref26_Name.f k1 (Int.tmod (wrap64 (a1)) 1003)).bind fun t279 => (if t278.toList = t279.toList then ((rotate_Packed.f (Int.tmod (wrap64 (a1)) 1003)).bind fun t280 => ((kauditref26_Packed.f k1 (Int.tmod (wrap64 (a1)) 1003)).bind fun t281 => (if t280.toList = t281.toList then ((kauditlaw26_begun.f k1).bind fun t282 => (some t282)) else (some false)))) else (some false)))) else (some false)))) else (some false))) = some r := H
            have A28 := Aside0.mk A280
            clear A280
            replace H := Option.bind_eq_some_iff.mp H
            obtain ⟨t275, A290, H⟩ := H
            replace H : (if t274.toList = t275.toList then ((rotate_Packed.f a0).bind fun t276 => ((kauditref26_Packed.f k1 a0).bind fun t277 => (if t276.toList = t277.toList then ((rotate_Name.f (Int.tmod (wrap64 (a1)) 1003)).bind fun t278 => ((kauditref26_Name.f k1 (Int.tmod (wrap64 (a1)) 1003)).bind fun t279 => (if t278.toList = t279.toList then ((rotate_Packed.f (Int.tmod (wrap64 (a1)) 1003)).bind fun t280 => ((kauditref26_Packed.f k1 (Int.tmod (wrap64 (a1)) 1003)).bind fun t281 => (if t280.toList = t281.toList then ((kauditlaw26_begun.f k1).bind fun t282 => (some t282)) else (some false)))) else (some false)))) else (some false)))) else (some false)) = some r := H
            have A29 := Aside0.mk A290
            clear A290
            by_cases c30 : t274.toList = t275.toList
            · rw [if_pos c30] at H
              have c30b0 : (t274.toList == t275.toList) = true := beq_iff_eq.mpr c30
              have c30b1 : (t274.toList != t275.toList) = false := bne_eq_false_iff_eq.mpr c30
              clear c30
              replace H := Option.bind_eq_some_iff.mp H
              obtain ⟨t276, A310, H⟩ := H
              replace H : ((kauditref26_Packed.f k1 a0).bind fun t277 => (if t276.toList = t277.toList then ((rotate_Name.f (Int.tmod (wrap64 (a1)) 1003)).bind fun t278 => ((kauditref26_Name.f k1 (Int.tmod (wrap64 (a1)) 1003)).bind fun t279 => (if t278.toList = t279.toList then ((rotate_Packed.f (Int.tmod (wrap64 (a1)) 1003)).bind fun t280 => ((kauditref26_Packed.f k1 (Int.tmod (wrap64 (a1)) 1003)).bind fun t281 => (if t280.toList = t281.toList then ((kauditlaw26_begun.f k1).bind fun t282 => (some t282)) else (some false)))) else (some false)))) else (some false))) = some r := H
              have A31 := Aside0.mk A310
              clear A310
              replace H := Option.bind_eq_some_iff.mp H
              obtain ⟨t277, A320, H⟩ := H
              replace H : (if t276.toList = t277.toList then ((rotate_Name.f (Int.tmod (wrap64 (a1)) 1003)).bind fun t278 => ((kauditref26_Name.f k1 (Int.tmod (wrap64 (a1)) 1003)).bind fun t279 => (if t278.toList = t279.toList then ((rotate_Packed.f (Int.tmod (wrap64 (a1)) 1003)).bind fun t280 => ((kauditref26_Packed.f k1 (Int.tmod (wrap64 (a1)) 1003)).bind fun t281 => (if t280.toList = t281.toList then ((kauditlaw26_begun.f k1).bind fun t282 => (some t282)) else (some false)))) else (some false)))) else (some false)) = some r := H
              have A32 := Aside0.mk A320
              clear A320
              by_cases c33 : t276.toList = t277.toList
              · rw [if_pos c33] at H
                have c33b0 : (t276.toList == t277.toList) = true := beq_iff_eq.mpr c33
                have c33b1 : (t276.toList != t277.toList) = false := bne_eq_false_iff_eq.mpr c33
                clear c33
                replace H := Option.bind_eq_some_iff.mp H
                obtain ⟨t278, A340, H⟩ := H
                replace H : ((kauditref26_Name.f k1 (Int.tmod (wrap64 (a1)) 1003)).bind fun t279 => (if t278.toList = t279.toList then ((rotate_Packed.f (Int.tmod (wrap64 (a1)) 1003)).bind fun t280 => ((kauditref26_Packed.f k1 (Int.tmod (wrap64 (a1)) 1003)).bind fun t281 => (if t280.toList = t281.toList then ((kauditlaw26_begun.f k1).bind fun t282 => (some t282)) else (some false)))) else (some false))) = some r := H
                have A34 := Aside0.mk A340
                clear A340
                replace H := Option.bind_eq_some_iff.mp H
                obtain ⟨t279, A350, H⟩ := H
                replace H : (if t278.toList = t279.toList then ((rotate_Packed.f (Int.tmod (wrap64 (a1)) 1003)).bind fun t280 => ((kauditref26_Packed.f k1 (Int.tmod (wrap64 (a1)) 1003)).bind fun t281 => (if t280.toList = t281.toList then ((kauditlaw26_begun.f k1).bind fun t282 => (some t282)) else (some false)))) else (some false)) = some r := H
                have A35 := Aside0.mk A350
                clear A350
                by_cases c36 : t278.toList = t279.toList
                · rw [if_pos c36] at H
                  have c36b0 : (t278.toList == t279.toList) = true := beq_iff_eq.mpr c36
                  have c36b1 : (t278.toList != t279.toList) = false := bne_eq_false_iff_eq.mpr c36
                  clear c36
                  replace H := Option.bind_eq_some_iff.mp H
                  obtain ⟨t280, A370, H⟩ := H
                  replace H : ((kauditref26_Packed.f k1 (Int.tmod (wrap64 (a1)) 1003)).bind fun t281 => (if t280.toList = t281.toList then ((kauditlaw26_begun.f k1).bind fun t282 => (some t282)) else (some false))) = some r := H
                  have A37 := Aside0.mk A370
                  clear A370
                  replace H := Option.bind_eq_some_iff.mp H
                  obtain ⟨t281, A380, H⟩ := H
                  replace H : (if t280.toList = t281.toList then ((kauditlaw26_begun.f k1).bind fun t282 => (some t282)) else (some false)) = some r := H
                  have A38 := Aside0.mk A380
                  clear A380
                  by_cases c39 : t280.toList = t281.toList
                  · rw [if_pos c39] at H
                    have c39b0 : (t280.toList == t281.toList) = true := beq_iff_eq.mpr c39
                    have c39b1 : (t280.toList != t281.toList) = false := bne_eq_false_iff_eq.mpr c39
                    clear c39
                    replace H := Option.bind_eq_some_iff.mp H
                    obtain ⟨t282, A400, H⟩ := H
                    replace H : (some t282) = some r := H
                    have A40 := Aside0.mk A400
                    clear A400
                    obtain rfl := Option.some.inj H
                    go_wp2_with (first | ((with_reducible refine gate_callee (f := 22) rfl ?_); refine goesL_ (some 65) rfl rfl Tryd.func22 (by kernel_rfl) rfl #[.int .i64 a0] rfl (by (try simp only [List.map_toArray, List.map_cons, List.map_nil]); first | done | rfl | (simp only [List.length_drop, List.length_take]; rfl)) ?_; (with_reducible refine (rotate_Name.calls a0 t274 _ ?side1 A28.out).mono ?_); (case side1 => exact TabOk.below HT.out (by repeat (first | (with_reducible first | exact HB.out | apply below_alloc | apply pw_below_drewN | apply below_drew1) | exact HB.out))); rintro e w41 ⟨rfl, hb⟩; refine ⟨_, rfl, ?_⟩; have n0_ := Aside0.mk (Kd.R_below (by (with_reducible repeat (first | apply Kd.R_alloc | apply Kd.R_drewN | apply Kd.R_drew)); exact HO_32.out) hb); have n1_ := Aside0.mk (below_step (by repeat (first | (with_reducible first | exact HB.out | apply below_alloc | apply pw_below_drewN | apply below_drew1) | exact HB.out)) hb); clear HO_32; clear HB; have HO_32 := n0_; have HB := n1_; clear n0_ n1_; (try clear hb); (try clear hb2); (try clear hk); (try clear hi)) | ((with_reducible refine gate_callee (f := 26) rfl ?_); refine goesL_ (some 67) rfl rfl Tryd.func26 (by kernel_rfl) rfl #[.int .i64 a0] rfl (by (try simp only [List.map_toArray, List.map_cons, List.map_nil]); first | done | rfl | (simp only [List.length_drop, List.length_take]; rfl)) ?_; (with_reducible refine (kauditref26_Name.calls k1 a0 t275 _ A29.out).mono ?_); rintro e w42 ⟨rfl, hb⟩; refine ⟨_, rfl, ?_⟩; have n0_ := Aside0.mk (Kd.R_below (by (with_reducible repeat (first | apply Kd.R_alloc | apply Kd.R_drewN | apply Kd.R_drew)); exact HO_32.out) hb); have n1_ := Aside0.mk (below_step (by repeat (first | (with_reducible first | exact HB.out | apply below_alloc | apply pw_below_drewN | apply below_drew1) | exact HB.out)) hb); clear HO_32; clear HB; have HO_32 := n0_; have HB := n1_; clear n0_ n1_; (try clear hb); (try clear hb2); (try clear hk); (try clear hi)) | (go_at_call 23; (with_reducible refine (rotate_Packed.calls a0 t276 _ ?side1 A31.out).mono ?_); (case side1 => exact TabOk.below HT.out (by repeat (first | (with_reducible first | exact HB.out | apply below_alloc | apply pw_below_drewN | apply below_drew1) | exact HB.out))); rintro e w43 ⟨rfl, hb⟩; have n0_ := Aside0.mk (Kd.R_below (by (with_reducible repeat (first | apply Kd.R_alloc | apply Kd.R_drewN | apply Kd.R_drew)); exact HO_32.out) hb); have n1_ := Aside0.mk (below_step (by repeat (first | (with_reducible first | exact HB.out | apply below_alloc | apply pw_below_drewN | apply below_drew1) | exact HB.out)) hb); clear HO_32; clear HB; have HO_32 := n0_; have HB := n1_; clear n0_ n1_; (try clear hb); (try clear hb2); (try clear hk); (try clear hi)) | (go_at_call 27; (with_reducible refine (kauditref26_Packed.calls k1 a0 t277 _ A32.out).mono ?_); rintro e w44 ⟨rfl, hb⟩; have n0_ := Aside0.mk (Kd.R_below (by (with_reducible repeat (first | apply Kd.R_alloc | apply Kd.R_drewN | apply Kd.R_drew)); exact HO_32.out) hb); have n1_ := Aside0.mk (below_step (by repeat (first | (with_reducible first | exact HB.out | apply below_alloc | apply pw_below_drewN | apply below_drew1) | exact HB.out)) hb); clear HO_32; clear HB; have HO_32 := n0_; have HB := n1_; clear n0_ n1_; (try clear hb); (try clear hb2); (try clear hk); (try clear hi)) | (go_at_call 22; (with_reducible refine (rotate_Name.calls (Int.tmod (wrap64 (a1)) 1003) t278 _ ?side1 A34.out).mono ?_); (case side1 => exact TabOk.below HT.out (by repeat (first | (with_reducible first | exact HB.out | apply below_alloc | apply pw_below_drewN | apply below_drew1) | exact HB.out))); rintro e w45 ⟨rfl, hb⟩; have n0_ := Aside0.mk (Kd.R_below (by (with_reducible repeat (first | apply Kd.R_alloc | apply Kd.R_drewN | apply Kd.R_drew)); exact HO_32.out) hb); have n1_ := Aside0.mk (below_step (by repeat (first | (with_reducible first | exact HB.out | apply below_alloc | apply pw_below_drewN | apply below_drew1) | exact HB.out)) hb); clear HO_32; clear HB; have HO_32 := n0_; have HB := n1_; clear n0_ n1_; (try clear hb); (try clear hb2); (try clear hk); (try clear hi)) | (go_at_call 26; (with_reducible refine (kauditref26_Name.calls k1 (Int.tmod (wrap64 (a1)) 1003) t279 _ A35.out).mono ?_); rintro e w46 ⟨rfl, hb⟩; have n0_ := Aside0.mk (Kd.R_below (by (with_reducible repeat (first | apply Kd.R_alloc | apply Kd.R_drewN | apply Kd.R_drew)); exact HO_32.out) hb); have n1_ := Aside0.mk (below_step (by repeat (first | (with_reducible first | exact HB.out | apply below_alloc | apply pw_below_drewN | apply below_drew1) | exact HB.out)) hb); clear HO_32; clear HB; have HO_32 := n0_; have HB := n1_; clear n0_ n1_; (try clear hb); (try clear hb2); (try clear hk); (try clear hi)) | (go_at_call 23; (with_reducible refine (rotate_Packed.calls (Int.tmod (wrap64 (a1)) 1003) t280 _ ?side1 A37.out).mono ?_); (case side1 => exact TabOk.below HT.out (by repeat (first | (with_reducible first | exact HB.out | apply below_alloc | apply pw_below_drewN | apply below_drew1) | exact HB.out))); rintro e w47 ⟨rfl, hb⟩; have n0_ := Aside0.mk (Kd.R_below (by (with_reducible repeat (first | apply Kd.R_alloc | apply Kd.R_drewN | apply Kd.R_drew)); exact HO_32.out) hb); have n1_ := Aside0.mk (below_step (by repeat (first | (with_reducible first | exact HB.out | apply below_alloc | apply pw_below_drewN | apply below_drew1) | exact HB.out)) hb); clear HO_32; clear HB; have HO_32 := n0_; have HB := n1_; clear n0_ n1_; (try clear hb); (try clear hb2); (try clear hk); (try clear hi)) | (go_at_call 27; (with_reducible refine (kauditref26_Packed.calls k1 (Int.tmod (wrap64 (a1)) 1003) t281 _ A38.out).mono ?_); rintro e w48 ⟨rfl, hb⟩; have n0_ := Aside0.mk (Kd.R_below (by (with_reducible repeat (first | apply Kd.R_alloc | apply Kd.R_drewN | apply Kd.R_drew)); exact HO_32.out) hb); have n1_ := Aside0.mk (below_step (by repeat (first | (with_reducible first | exact HB.out | apply below_alloc | apply pw_below_drewN | apply below_drew1) | exact HB.out)) hb); clear HO_32; clear HB; have HO_32 := n0_; have HB := n1_; clear n0_ n1_; (try clear hb); (try clear hb2); (try clear hk); (try clear hi)) | (go_at_call 16; (with_reducible refine (kauditlaw26_begun.calls k1  t282 _ ?side1 A40.out).mono ?_); (case side1 => exact TabOk.below HT.out (by repeat (first | (with_reducible first | exact HB.out | apply below_alloc | apply pw_below_drewN | apply below_drew1) | exact HB.out))); rintro e w49 ⟨rfl, hb⟩; have n0_ := Aside0.mk (Kd.R_below (by (with_reducible repeat (first | apply Kd.R_alloc | apply Kd.R_drewN | apply Kd.R_drew)); exact HO_32.out) hb); have n1_ := Aside0.mk (below_step (by repeat (first | (with_reducible first | exact HB.out | apply below_alloc | apply pw_below_drewN | apply below_drew1) | exact HB.out)) hb); clear HO_32; clear HB; have HO_32 := n0_; have HB := n1_; clear n0_ n1_; (try clear hb); (try clear hb2); (try clear hk); (try clear hi)))
                    go_ret
                    exact ⟨by first | rfl | (simp [errW_none, errW_some] <;> rfl) | (simp [*, errW_none, errW_some] <;> rfl), by repeat (first | (with_reducible first | exact HB.out | apply below_alloc | apply pw_below_drewN | apply below_drew1) | exact HB.out)⟩
                  · rw [if_neg c39] at H
                    have c39b0 : (t280.toList == t281.toList) = false := beq_eq_false_iff_ne.mpr c39
                    have c39b1 : (t280.toList != t281.toList) = true := bne_iff_ne.mpr c39
                    obtain rfl := Option.some.inj H
                    go_wp2_with (first | ((with_reducible refine gate_callee (f := 22) rfl ?_); refine goesL_ (some 65) rfl rfl Tryd.func22 (by kernel_rfl) rfl #[.int .i64 a0] rfl (by (try simp only [List.map_toArray, List.map_cons, List.map_nil]); first | done | rfl | (simp only [List.length_drop, List.length_take]; rfl)) ?_; (with_reducible refine (rotate_Name.calls a0 t274 _ ?side1 A28.out).mono ?_); (case side1 => exact TabOk.below HT.out (by repeat (first | (with_reducible first | exact HB.out | apply below_alloc | apply pw_below_drewN | apply below_drew1) | exact HB.out))); rintro e w50 ⟨rfl, hb⟩; refine ⟨_, rfl, ?_⟩; have n0_ := Aside0.mk (Kd.R_below (by (with_reducible repeat (first | apply Kd.R_alloc | apply Kd.R_drewN | apply Kd.R_drew)); exact HO_32.out) hb); have n1_ := Aside0.mk (below_step (by repeat (first | (with_reducible first | exact HB.out | apply below_alloc | apply pw_below_drewN | apply below_drew1) | exact HB.out)) hb); clear HO_32; clear HB; have HO_32 := n0_; have HB := n1_; clear n0_ n1_; (try clear hb); (try clear hb2); (try clear hk); (try clear hi)) | ((with_reducible refine gate_callee (f := 26) rfl ?_); refine goesL_ (some 67) rfl rfl Tryd.func26 (by kernel_rfl) rfl #[.int .i64 a0] rfl (by (try simp only [List.map_toArray, List.map_cons, List.map_nil]); first | done | rfl | (simp only [List.length_drop, List.length_take]; rfl)) ?_; (with_reducible refine (kauditref26_Name.calls k1 a0 t275 _ A29.out).mono ?_); rintro e w51 ⟨rfl, hb⟩; refine ⟨_, rfl, ?_⟩; have n0_ := Aside0.mk (Kd.R_below (by (with_reducible repeat (first | apply Kd.R_alloc | apply Kd.R_drewN | apply Kd.R_drew)); exact HO_32.out) hb); have n1_ := Aside0.mk (below_step (by repeat (first | (with_reducible first | exact HB.out | apply below_alloc | apply pw_below_drewN | apply below_drew1) | exact HB.out)) hb); clear HO_32; clear HB; have HO_32 := n0_; have HB := n1_; clear n0_ n1_; (try clear hb); (try clear hb2); (try clear hk); (try clear hi)) | (go_at_call 23; (with_reducible refine (rotate_Packed.calls a0 t276 _ ?side1 A31.out).mono ?_); (case side1 => exact TabOk.below HT.out (by repeat (first | (with_reducible first | exact HB.out | apply below_alloc | apply pw_below_drewN | apply below_drew1) | exact HB.out))); rintro e w52 ⟨rfl, hb⟩; have n0_ := Aside0.mk (Kd.R_below (by (with_reducible repeat (first | apply Kd.R_alloc | apply Kd.R_drewN | apply Kd.R_drew)); exact HO_32.out) hb); have n1_ := Aside0.mk (below_step (by repeat (first | (with_reducible first | exact HB.out | apply below_alloc | apply pw_below_drewN | apply below_drew1) | exact HB.out)) hb); clear HO_32; clear HB; have HO_32 := n0_; have HB := n1_; clear n0_ n1_; (try clear hb); (try clear hb2); (try clear hk); (try clear hi)) | (go_at_call 27; (with_reducible refine (kauditref26_Packed.calls k1 a0 t277 _ A32.out).mono ?_); rintro e w53 ⟨rfl, hb⟩; have n0_ := Aside0.mk (Kd.R_below (by (with_reducible repeat (first | apply Kd.R_alloc | apply Kd.R_drewN | apply Kd.R_drew)); exact HO_32.out) hb); have n1_ := Aside0.mk (below_step (by repeat (first | (with_reducible first | exact HB.out | apply below_alloc | apply pw_below_drewN | apply below_drew1) | exact HB.out)) hb); clear HO_32; clear HB; have HO_32 := n0_; have HB := n1_; clear n0_ n1_; (try clear hb); (try clear hb2); (try clear hk); (try clear hi)) | (go_at_call 22; (with_reducible refine (rotate_Name.calls (Int.tmod (wrap64 (a1)) 1003) t278 _ ?side1 A34.out).mono ?_); (case side1 => exact TabOk.below HT.out (by repeat (first | (with_reducible first | exact HB.out | apply below_alloc | apply pw_below_drewN | apply below_drew1) | exact HB.out))); rintro e w54 ⟨rfl, hb⟩; have n0_ := Aside0.mk (Kd.R_below (by (with_reducible repeat (first | apply Kd.R_alloc | apply Kd.R_drewN | apply Kd.R_drew)); exact HO_32.out) hb); have n1_ := Aside0.mk (below_step (by repeat (first | (with_reducible first | exact HB.out | apply below_alloc | apply pw_below_drewN | apply below_drew1) | exact HB.out)) hb); clear HO_32; clear HB; have HO_32 := n0_; have HB := n1_; clear n0_ n1_; (try clear hb); (try clear hb2); (try clear hk); (try clear hi)) | (go_at_call 26; (with_reducible refine (kauditref26_Name.calls k1 (Int.tmod (wrap64 (a1)) 1003) t279 _ A35.out).mono ?_); rintro e w55 ⟨rfl, hb⟩; have n0_ := Aside0.mk (Kd.R_below (by (with_reducible repeat (first | apply Kd.R_alloc | apply Kd.R_drewN | apply Kd.R_drew)); exact HO_32.out) hb); have n1_ := Aside0.mk (below_step (by repeat (first | (with_reducible first | exact HB.out | apply below_alloc | apply pw_below_drewN | apply below_drew1) | exact HB.out)) hb); clear HO_32; clear HB; have HO_32 := n0_; have HB := n1_; clear n0_ n1_; (try clear hb); (try clear hb2); (try clear hk); (try clear hi)) | (go_at_call 23; (with_reducible refine (rotate_Packed.calls (Int.tmod (wrap64 (a1)) 1003) t280 _ ?side1 A37.out).mono ?_); (case side1 => exact TabOk.below HT.out (by repeat (first | (with_reducible first | exact HB.out | apply below_alloc | apply pw_below_drewN | apply below_drew1) | exact HB.out))); rintro e w56 ⟨rfl, hb⟩; have n0_ := Aside0.mk (Kd.R_below (by (with_reducible repeat (first | apply Kd.R_alloc | apply Kd.R_drewN | apply Kd.R_drew)); exact HO_32.out) hb); have n1_ := Aside0.mk (below_step (by repeat (first | (with_reducible first | exact HB.out | apply below_alloc | apply pw_below_drewN | apply below_drew1) | exact HB.out)) hb); clear HO_32; clear HB; have HO_32 := n0_; have HB := n1_; clear n0_ n1_; (try clear hb); (try clear hb2); (try clear hk); (try clear hi)) | (go_at_call 27; (with_reducible refine (kauditref26_Packed.calls k1 (Int.tmod (wrap64 (a1)) 1003) t281 _ A38.out).mono ?_); rintro e w57 ⟨rfl, hb⟩; have n0_ := Aside0.mk (Kd.R_below (by (with_reducible repeat (first | apply Kd.R_alloc | apply Kd.R_drewN | apply Kd.R_drew)); exact HO_32.out) hb); have n1_ := Aside0.mk (below_step (by repeat (first | (with_reducible first | exact HB.out | apply below_alloc | apply pw_below_drewN | apply below_drew1) | exact HB.out)) hb); clear HO_32; clear HB; have HO_32 := n0_; have HB := n1_; clear n0_ n1_; (try clear hb); (try clear hb2); (try clear hk); (try clear hi)))
                    go_ret
                    exact ⟨by first | rfl | (simp [errW_none, errW_some] <;> rfl) | (simp [*, errW_none, errW_some] <;> rfl), by repeat (first | (with_reducible first | exact HB.out | apply below_alloc | apply pw_below_drewN | apply below_drew1) | exact HB.out)⟩
                · rw [if_neg c36] at H
                  have c36b0 : (t278.toList == t279.toList) = false := beq_eq_false_iff_ne.mpr c36
                  have c36b1 : (t278.toList != t279.toList) = true := bne_iff_ne.mpr c36
                  obtain rfl := Option.some.inj H
                  go_wp2_with (first | ((with_reducible refine gate_callee (f := 22) rfl ?_); refine goesL_ (some 65) rfl rfl Tryd.func22 (by kernel_rfl) rfl #[.int .i64 a0] rfl (by (try simp only [List.map_toArray, List.map_cons, List.map_nil]); first | done | rfl | (simp only [List.length_drop, List.length_take]; rfl)) ?_; (with_reducible refine (rotate_Name.calls a0 t274 _ ?side1 A28.out).mono ?_); (case side1 => exact TabOk.below HT.out (by repeat (first | (with_reducible first | exact HB.out | apply below_alloc | apply pw_below_drewN | apply below_drew1) | exact HB.out))); rintro e w58 ⟨rfl, hb⟩; refine ⟨_, rfl, ?_⟩; have n0_ := Aside0.mk (Kd.R_below (by (with_reducible repeat (first | apply Kd.R_alloc | apply Kd.R_drewN | apply Kd.R_drew)); exact HO_32.out) hb); have n1_ := Aside0.mk (below_step (by repeat (first | (with_reducible first | exact HB.out | apply below_alloc | apply pw_below_drewN | apply below_drew1) | exact HB.out)) hb); clear HO_32; clear HB; have HO_32 := n0_; have HB := n1_; clear n0_ n1_; (try clear hb); (try clear hb2); (try clear hk); (try clear hi)) | ((with_reducible refine gate_callee (f := 26) rfl ?_); refine goesL_ (some 67) rfl rfl Tryd.func26 (by kernel_rfl) rfl #[.int .i64 a0] rfl (by (try simp only [List.map_toArray, List.map_cons, List.map_nil]); first | done | rfl | (simp only [List.length_drop, List.length_take]; rfl)) ?_; (with_reducible refine (kauditref26_Name.calls k1 a0 t275 _ A29.out).mono ?_); rintro e w59 ⟨rfl, hb⟩; refine ⟨_, rfl, ?_⟩; have n0_ := Aside0.mk (Kd.R_below (by (with_reducible repeat (first | apply Kd.R_alloc | apply Kd.R_drewN | apply Kd.R_drew)); exact HO_32.out) hb); have n1_ := Aside0.mk (below_step (by repeat (first | (with_reducible first | exact HB.out | apply below_alloc | apply pw_below_drewN | apply below_drew1) | exact HB.out)) hb); clear HO_32; clear HB; have HO_32 := n0_; have HB := n1_; clear n0_ n1_; (try clear hb); (try clear hb2); (try clear hk); (try clear hi)) | (go_at_call 23; (with_reducible refine (rotate_Packed.calls a0 t276 _ ?side1 A31.out).mono ?_); (case side1 => exact TabOk.below HT.out (by repeat (first | (with_reducible first | exact HB.out | apply below_alloc | apply pw_below_drewN | apply below_drew1) | exact HB.out))); rintro e w60 ⟨rfl, hb⟩; have n0_ := Aside0.mk (Kd.R_below (by (with_reducible repeat (first | apply Kd.R_alloc | apply Kd.R_drewN | apply Kd.R_drew)); exact HO_32.out) hb); have n1_ := Aside0.mk (below_step (by repeat (first | (with_reducible first | exact HB.out | apply below_alloc | apply pw_below_drewN | apply below_drew1) | exact HB.out)) hb); clear HO_32; clear HB; have HO_32 := n0_; have HB := n1_; clear n0_ n1_; (try clear hb); (try clear hb2); (try clear hk); (try clear hi)) | (go_at_call 27; (with_reducible refine (kauditref26_Packed.calls k1 a0 t277 _ A32.out).mono ?_); rintro e w61 ⟨rfl, hb⟩; have n0_ := Aside0.mk (Kd.R_below (by (with_reducible repeat (first | apply Kd.R_alloc | apply Kd.R_drewN | apply Kd.R_drew)); exact HO_32.out) hb); have n1_ := Aside0.mk (below_step (by repeat (first | (with_reducible first | exact HB.out | apply below_alloc | apply pw_below_drewN | apply below_drew1) | exact HB.out)) hb); clear HO_32; clear HB; have HO_32 := n0_; have HB := n1_; clear n0_ n1_; (try clear hb); (try clear hb2); (try clear hk); (try clear hi)) | (go_at_call 22; (with_reducible refine (rotate_Name.calls (Int.tmod (wrap64 (a1)) 1003) t278 _ ?side1 A34.out).mono ?_); (case side1 => exact TabOk.below HT.out (by repeat (first | (with_reducible first | exact HB.out | apply below_alloc | apply pw_below_drewN | apply below_drew1) | exact HB.out))); rintro e w62 ⟨rfl, hb⟩; have n0_ := Aside0.mk (Kd.R_below (by (with_reducible repeat (first | apply Kd.R_alloc | apply Kd.R_drewN | apply Kd.R_drew)); exact HO_32.out) hb); have n1_ := Aside0.mk (below_step (by repeat (first | (with_reducible first | exact HB.out | apply below_alloc | apply pw_below_drewN | apply below_drew1) | exact HB.out)) hb); clear HO_32; clear HB; have HO_32 := n0_; have HB := n1_; clear n0_ n1_; (try clear hb); (try clear hb2); (try clear hk); (try clear hi)) | (go_at_call 26; (with_reducible refine (kauditref26_Name.calls k1 (Int.tmod (wrap64 (a1)) 1003) t279 _ A35.out).mono ?_); rintro e w63 ⟨rfl, hb⟩; have n0_ := Aside0.mk (Kd.R_below (by (with_reducible repeat (first | apply Kd.R_alloc | apply Kd.R_drewN | apply Kd.R_drew)); exact HO_32.out) hb); have n1_ := Aside0.mk (below_step (by repeat (first | (with_reducible first | exact HB.out | apply below_alloc | apply pw_below_drewN | apply below_drew1) | exact HB.out)) hb); clear HO_32; clear HB; have HO_32 := n0_; have HB := n1_; clear n0_ n1_; (try clear hb); (try clear hb2); (try clear hk); (try clear hi)))
                  go_ret
                  exact ⟨by first | rfl | (simp [errW_none, errW_some] <;> rfl) | (simp [*, errW_none, errW_some] <;> rfl), by repeat (first | (with_reducible first | exact HB.out | apply below_alloc | apply pw_below_drewN | apply below_drew1) | exact HB.out)⟩
              · rw [if_neg c33] at H
                have c33b0 : (t276.toList == t277.toList) = false := beq_eq_false_iff_ne.mpr c33
                have c33b1 : (t276.toList != t277.toList) = true := bne_iff_ne.mpr c33
                obtain rfl := Option.some.inj H
                go_wp2_with (first | ((with_reducible refine gate_callee (f := 22) rfl ?_); refine goesL_ (some 65) rfl rfl Tryd.func22 (by kernel_rfl) rfl #[.int .i64 a0] rfl (by (try simp only [List.map_toArray, List.map_cons, List.map_nil]); first | done | rfl | (simp only [List.length_drop, List.length_take]; rfl)) ?_; (with_reducible refine (rotate_Name.calls a0 t274 _ ?side1 A28.out).mono ?_); (case side1 => exact TabOk.below HT.out (by repeat (first | (with_reducible first | exact HB.out | apply below_alloc | apply pw_below_drewN | apply below_drew1) | exact HB.out))); rintro e w64 ⟨rfl, hb⟩; refine ⟨_, rfl, ?_⟩; have n0_ := Aside0.mk (Kd.R_below (by (with_reducible repeat (first | apply Kd.R_alloc | apply Kd.R_drewN | apply Kd.R_drew)); exact HO_32.out) hb); have n1_ := Aside0.mk (below_step (by repeat (first | (with_reducible first | exact HB.out | apply below_alloc | apply pw_below_drewN | apply below_drew1) | exact HB.out)) hb); clear HO_32; clear HB; have HO_32 := n0_; have HB := n1_; clear n0_ n1_; (try clear hb); (try clear hb2); (try clear hk); (try clear hi)) | ((with_reducible refine gate_callee (f := 26) rfl ?_); refine goesL_ (some 67) rfl rfl Tryd.func26 (by kernel_rfl) rfl #[.int .i64 a0] rfl (by (try simp only [List.map_toArray, List.map_cons, List.map_nil]); first | done | rfl | (simp only [List.length_drop, List.length_take]; rfl)) ?_; (with_reducible refine (kauditref26_Name.calls k1 a0 t275 _ A29.out).mono ?_); rintro e w65 ⟨rfl, hb⟩; refine ⟨_, rfl, ?_⟩; have n0_ := Aside0.mk (Kd.R_below (by (with_reducible repeat (first | apply Kd.R_alloc | apply Kd.R_drewN | apply Kd.R_drew)); exact HO_32.out) hb); have n1_ := Aside0.mk (below_step (by repeat (first | (with_reducible first | exact HB.out | apply below_alloc | apply pw_below_drewN | apply below_drew1) | exact HB.out)) hb); clear HO_32; clear HB; have HO_32 := n0_; have HB := n1_; clear n0_ n1_; (try clear hb); (try clear hb2); (try clear hk); (try clear hi)) | (go_at_call 23; (with_reducible refine (rotate_Packed.calls a0 t276 _ ?side1 A31.out).mono ?_); (case side1 => exact TabOk.below HT.out (by repeat (first | (with_reducible first | exact HB.out | apply below_alloc | apply pw_below_drewN | apply below_drew1) | exact HB.out))); rintro e w66 ⟨rfl, hb⟩; have n0_ := Aside0.mk (Kd.R_below (by (with_reducible repeat (first | apply Kd.R_alloc | apply Kd.R_drewN | apply Kd.R_drew)); exact HO_32.out) hb); have n1_ := Aside0.mk (below_step (by repeat (first | (with_reducible first | exact HB.out | apply below_alloc | apply pw_below_drewN | apply below_drew1) | exact HB.out)) hb); clear HO_32; clear HB; have HO_32 := n0_; have HB := n1_; clear n0_ n1_; (try clear hb); (try clear hb2); (try clear hk); (try clear hi)) | (go_at_call 27; (with_reducible refine (kauditref26_Packed.calls k1 a0 t277 _ A32.out).mono ?_); rintro e w67 ⟨rfl, hb⟩; have n0_ := Aside0.mk (Kd.R_below (by (with_reducible repeat (first | apply Kd.R_alloc | apply Kd.R_drewN | apply Kd.R_drew)); exact HO_32.out) hb); have n1_ := Aside0.mk (below_step (by repeat (first | (with_reducible first | exact HB.out | apply below_alloc | apply pw_below_drewN | apply below_drew1) | exact HB.out)) hb); clear HO_32; clear HB; have HO_32 := n0_; have HB := n1_; clear n0_ n1_; (try clear hb); (try clear hb2); (try clear hk); (try clear hi)))
                go_ret
                exact ⟨by first | rfl | (simp [errW_none, errW_some] <;> rfl) | (simp [*, errW_none, errW_some] <;> rfl), by repeat (first | (with_reducible first | exact HB.out | apply below_alloc | apply pw_below_drewN | apply below_drew1) | exact HB.out)⟩
            · rw [if_neg c30] at H
              have c30b0 : (t274.toList == t275.toList) = false := beq_eq_false_iff_ne.mpr c30
              have c30b1 : (t274.toList != t275.toList) = true := bne_iff_ne.mpr c30
              obtain rfl := Option.some.inj H
              go_wp2_with (first | ((with_reducible refine gate_callee (f := 22) rfl ?_); refine goesL_ (some 65) rfl rfl Tryd.func22 (by kernel_rfl) rfl #[.int .i64 a0] rfl (by (try simp only [List.map_toArray, List.map_cons, List.map_nil]); first | done | rfl | (simp only [List.length_drop, List.length_take]; rfl)) ?_; (with_reducible refine (rotate_Name.calls a0 t274 _ ?side1 A28.out).mono ?_); (case side1 => exact TabOk.below HT.out (by repeat (first | (with_reducible first | exact HB.out | apply below_alloc | apply pw_below_drewN | apply below_drew1) | exact HB.out))); rintro e w68 ⟨rfl, hb⟩; refine ⟨_, rfl, ?_⟩; have n0_ := Aside0.mk (Kd.R_below (by (with_reducible repeat (first | apply Kd.R_alloc | apply Kd.R_drewN | apply Kd.R_drew)); exact HO_32.out) hb); have n1_ := Aside0.mk (below_step (by repeat (first | (with_reducible first | exact HB.out | apply below_alloc | apply pw_below_drewN | apply below_drew1) | exact HB.out)) hb); clear HO_32; clear HB; have HO_32 := n0_; have HB := n1_; clear n0_ n1_; (try clear hb); (try clear hb2); (try clear hk); (try clear hi)) | ((with_reducible refine gate_callee (f := 26) rfl ?_); refine goesL_ (some 67) rfl rfl Tryd.func26 (by kernel_rfl) rfl #[.int .i64 a0] rfl (by (try simp only [List.map_toArray, List.map_cons, List.map_nil]); first | done | rfl | (simp only [List.length_drop, List.length_take]; rfl)) ?_; (with_reducible refine (kauditref26_Name.calls k1 a0 t275 _ A29.out).mono ?_); rintro e w69 ⟨rfl, hb⟩; refine ⟨_, rfl, ?_⟩; have n0_ := Aside0.mk (Kd.R_below (by (with_reducible repeat (first | apply Kd.R_alloc | apply Kd.R_drewN | apply Kd.R_drew)); exact HO_32.out) hb); have n1_ := Aside0.mk (below_step (by repeat (first | (with_reducible first | exact HB.out | apply below_alloc | apply pw_below_drewN | apply below_drew1) | exact HB.out)) hb); clear HO_32; clear HB; have HO_32 := n0_; have HB := n1_; clear n0_ n1_; (try clear hb); (try clear hb2); (try clear hk); (try clear hi)))
              go_ret
              exact ⟨by first | rfl | (simp [errW_none, errW_some] <;> rfl) | (simp [*, errW_none, errW_some] <;> rfl), by repeat (first | (with_reducible first | exact HB.out | apply below_alloc | apply pw_below_drewN | apply below_drew1) | exact HB.out)⟩
    · rw [if_neg c9] at H
      exact absurd H (by simp)
  · rw [if_neg c8] at H
    exact absurd H (by simp)

end Go.Proofs.YtadjaakmpjhdhaaDoor.Q
