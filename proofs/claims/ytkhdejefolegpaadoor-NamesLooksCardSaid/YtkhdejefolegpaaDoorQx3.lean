-- Printed by px.py: a changed copy of the kit's printer, with contracts of this session's own in it. Not trusted: Lean checks it.
import Derived.Test.YtkhdejefolegpaaDoorQx0
namespace Go.Proofs.YtkhdejefolegpaaDoor.Q
open Go.RowKit Go.Proofs.YtkhdejefolegpaaDoorW.PrintWords Go.Proofs.YtkhdejefolegpaaDoorW.PrintLast Go.Proofs.YtkhdejefolegpaaDoorW.PrintMore
attribute [local go_sem] max2_int min2_int max_two min_two max_three min_three max_four min_four   -- for this text's walks alone
set_option linter.unusedVariables false
set_option linter.unusedSimpArgs false

/-! ### names_word: function 43 -/
mutual
def names_word.j0 : Nat → ByteArray → Bool → Option (Bool)
  | 0, _, _ => none
  | k + 1, x0, x12 => if x12 = true then (some false) else (names_word.l0 k x0 0)
def names_word.l0 : Nat → ByteArray → Int → Option (Bool)
  | 0, _, _ => none
  | k + 1, x0, x3 => if x3 < (x0.size : Int) then (if 0 ≤ x3 then (if (bt x0 x3) ≥ 97 then (if ((bt x0 x3) ≤ 122) then (names_word.l0 k x0 (wrap64 (x3 + 1))) else (if x3 = 0 then (some false) else (if (bt x0 x3) = 45 then (names_word.l0 k x0 (wrap64 (x3 + 1))) else (if (bt x0 x3) < 48 then (some false) else (if (bt x0 x3) > 57 then (some false) else (names_word.l0 k x0 (wrap64 (x3 + 1)))))))) else (if x3 = 0 then (some false) else (if (bt x0 x3) = 45 then (names_word.l0 k x0 (wrap64 (x3 + 1))) else (if (bt x0 x3) < 48 then (some false) else (if (bt x0 x3) > 57 then (some false) else (names_word.l0 k x0 (wrap64 (x3 + 1)))))))) else (none)) else (some true)
end
def names_word.f (k : Nat) (a0 : ByteArray) : Option (Bool) := if (a0.size : Int) < 1 then (names_word.j0 k a0 true) else (names_word.j0 k a0 (decide ((a0.size : Int) > 16)))
theorem names_word.mono_l : ∀ k, (∀ y0 y1, LeO (names_word.j0 k y0 y1) (names_word.j0 (k + 1) y0 y1)) ∧ (∀ y0 y1, LeO (names_word.l0 k y0 y1) (names_word.l0 (k + 1) y0 y1))
  | 0 => ⟨fun _ _ r h => by simp [names_word.j0] at h, fun _ _ r h => by simp [names_word.l0] at h⟩
  | k + 1 => by
    obtain ⟨ih0, ih1⟩ := names_word.mono_l k
    refine ⟨?_, ?_⟩
    · intro y0 y1
      unfold names_word.j0
      repeat' first
      | (with_reducible exact ih0 _ _)
      | (with_reducible exact ih1 _ _)
      | (with_reducible exact LeO.refl _)
      | (with_reducible exact LeO.none _)
      | (with_reducible refine LeO.ite ?_ ?_)
      | (with_reducible refine LeO.bind ?_ (fun _ => ?_))
      | exact ih0 _ _
      | exact ih1 _ _
      | exact LeO.none _
      | refine LeO.ite ?_ ?_
      | refine LeO.bind ?_ (fun _ => ?_)
    · intro y0 y1
      unfold names_word.l0
      repeat' first
      | (with_reducible exact ih0 _ _)
      | (with_reducible exact ih1 _ _)
      | (with_reducible exact LeO.refl _)
      | (with_reducible exact LeO.none _)
      | (with_reducible refine LeO.ite ?_ ?_)
      | (with_reducible refine LeO.bind ?_ (fun _ => ?_))
      | exact ih0 _ _
      | exact ih1 _ _
      | exact LeO.none _
      | refine LeO.ite ?_ ?_
      | refine LeO.bind ?_ (fun _ => ?_)
theorem names_word.mono : ∀ a0 k, LeO (names_word.f k a0) (names_word.f (k + 1) a0) := by
  intro a0 k
  obtain ⟨ih0, ih1⟩ := names_word.mono_l k
  unfold names_word.f
  repeat' first
      | (with_reducible exact ih0 _ _)
      | (with_reducible exact ih1 _ _)
      | (with_reducible exact LeO.refl _)
      | (with_reducible exact LeO.none _)
      | (with_reducible refine LeO.ite ?_ ?_)
      | (with_reducible refine LeO.bind ?_ (fun _ => ?_))
      | exact ih0 _ _
      | exact ih1 _ _
      | exact LeO.none _
      | refine LeO.ite ?_ ?_
      | refine LeO.bind ?_ (fun _ => ?_)
set_option maxHeartbeats 8000000 in
set_option maxRecDepth 100000 in
theorem names_word.calls (k : Nat) (a0 : ByteArray) (r : Bool) (w : World) (h : names_word.f k a0 = some r) :
    Calls Tryd.prog 43 #[.string a0] w fun e w' => e = .returned (.bool r) ∧ Drawn0 w w' := by
  have H : (if (a0.size : Int) < 1 then (names_word.j0 k a0 true) else (names_word.j0 k a0 (decide ((a0.size : Int) > 16)))) = some r := h
  clear h
  have HC2 := Aside0.mk H
  clear H
  go_enter Tryd.func43, Tryd.ntmps43
  go_upto_region 1 with (fail)
  go_cut [12] (fun v12 wc => ∃ (kq : Nat) (x12_1 : Bool), v12 = .bool x12_1 ∧ Aside0 (names_word.j0 kq a0 x12_1 = some r) ∧ Aside0 (kq ≤ k) ∧ Drawn0 w wc)
  case first =>
    have H := HC2.out
    clear HC2
    by_cases c3 : (a0.size : Int) < 1
    · rw [if_pos c3] at H
      have c3b0 : decide ((a0.size : Int) < 1) = true := decide_eq_true c3
      have c3b1 : decide (a0.size < 1) = true := decide_eq_true (by omega)
      clear c3
      (first | rw [c3b0] | (simp only [i64_w, i32_w]; rw [c3b0]) | skip)
      have H' := Aside0.mk H
      clear H
      go_wp2
      go_meet
      case rel => exact ⟨_, (true), (by first | rfl | (simp; done) | (simp [*]; done)), H', ⟨by first | omega | exact Nat.le_refl _⟩, by repeat (first | exact Drawn0.refl _ | apply Drawn0.step)⟩
    · rw [if_neg c3] at H
      have c3b0 : decide ((a0.size : Int) < 1) = false := decide_eq_false c3
      have c3b1 : decide (a0.size < 1) = false := decide_eq_false (by omega)
      clear c3
      (first | rw [c3b0] | (simp only [i64_w, i32_w]; rw [c3b0]) | skip)
      have H' := Aside0.mk H
      clear H
      go_wp2
      go_meet
      case rel => exact ⟨_, (decide ((a0.size : Int) > 16)), (by first | rfl | (simp; done) | (simp [*]; done)), H', ⟨by first | omega | exact Nat.le_refl _⟩, by repeat (first | exact Drawn0.refl _ | apply Drawn0.step)⟩
  case rest =>
    clear HC2
    try clear p2
    try clear c3
    try clear c3b0
    try clear c3b1
    obtain ⟨kq, x12_1, rfl, HA, HJ1, ⟨mc1, rfl⟩⟩ := hcut
    cases kq with
    | zero => exact absurd HA.out (by simp [names_word.j0])
    | succ kj1 =>
      have H := HA.out
      clear HA
      simp only [names_word.j0] at H
      by_cases c4 : x12_1 = true
      · subst c4
        have H1 : (some false) = some r := by rw [if_pos rfl] at H; exact H
        clear H
        have H := H1
        clear H1
        obtain rfl := Option.some.inj H
        go_wp2
        go_ret
        exact ⟨by first | rfl | (simp; done) | (simp [*]; done), by repeat (first | exact Drawn0.refl _ | apply Drawn0.step)⟩
      · replace c4 := Bool.eq_false_iff.mpr c4
        subst c4
        have H1 : (names_word.l0 kj1 a0 0) = some r := by rw [if_neg (show ¬ (false = true) by decide)] at H; exact H
        clear H
        have H := H1
        clear H1
        have H' := Aside0.mk H
        clear H
        go_wp2
        go_loopg [3] kj1 (fun kq v3 w' => ∃ (x3_2 : Int), v3 = .int .i64 x3_2 ∧ Aside0 (names_word.l0 kq a0 x3_2 = some r) ∧ Aside0 (kq ≤ kj1) ∧ Drawn0 w w')
        case atStart => exact ⟨(0), (by first | rfl | (simp; done) | (simp [*]; done)), H', ⟨Nat.le_refl _⟩, by repeat (first | exact Drawn0.refl _ | apply Drawn0.step)⟩
        case round =>
          clear H'
          try clear c1
          try clear p2
          try clear c3
          try clear c3b0
          try clear c3b1
          try clear c4
          try clear p2
          obtain ⟨x3_2, rfl, HA, HK2, ⟨m2, rfl⟩⟩ := hrel
          cases gk with
          | zero => exact absurd HA.out (by simp [names_word.l0])
          | succ k2 =>
            have H := HA.out
            clear HA
            simp only [names_word.l0] at H
            by_cases c5 : x3_2 < (a0.size : Int)
            · rw [if_pos c5] at H
              have c5b0 : decide (x3_2 < (a0.size : Int)) = true := decide_eq_true c5
              clear c5
              by_cases c6 : 0 ≤ x3_2
              · rw [if_pos c6] at H
                have c6b0 : decide (0 ≤ x3_2) = true := decide_eq_true c6
                clear c6
                by_cases c8 : (bt a0 x3_2) ≥ 97
                · rw [if_pos c8] at H
                  have c8b0 : decide (97 ≤ (bt a0 x3_2)) = true := decide_eq_true c8
                  clear c8
                  by_cases c10 : ((bt a0 x3_2) ≤ 122)
                  · rw [if_pos c10] at H
                    have c10b0 : decide ((bt a0 x3_2) ≤ 122) = true := decide_eq_true c10
                    clear c10
                    have H' := Aside0.mk H
                    clear H
                    have p7 : 0 ≤ (x3_2 : Int) := of_decide_eq_true (by first | (with_reducible assumption) | assumption)
                    have q7 : x3_2 < (a0.size : Int) := of_decide_eq_true (by first | (with_reducible assumption) | assumption)
                    have hx7 := bt_at a0 x3_2
                    replace p7 := eq_true p7
                    replace q7 := eq_true q7
                    have p9 : 0 ≤ (x3_2 : Int) := of_decide_eq_true (by first | (with_reducible assumption) | assumption)
                    have q9 : x3_2 < (a0.size : Int) := of_decide_eq_true (by first | (with_reducible assumption) | assumption)
                    have hx9 := bt_at a0 x3_2
                    replace p9 := eq_true p9
                    replace q9 := eq_true q9
                    go_wp2
                    go_roundg k2
                    case measure => have := HJ1.out; have := HK2.out; omega
                    case rel => exact ⟨(wrap64 (x3_2 + 1)), (by first | rfl | (simp; done) | (simp [*]; done)), H', ⟨by have := HJ1.out; have := HK2.out; omega⟩, by repeat (first | exact Drawn0.refl _ | apply Drawn0.step)⟩
                  · rw [if_neg c10] at H
                    have c10b0 : decide ((bt a0 x3_2) ≤ 122) = false := decide_eq_false c10
                    clear c10
                    by_cases c11 : x3_2 = 0
                    · rw [if_pos c11] at H
                      have c11b0 : (x3_2 == 0) = true := beq_iff_eq.mpr c11
                      have c11b1 : (x3_2 != 0) = false := bne_eq_false_iff_eq.mpr c11
                      clear c11
                      obtain rfl := Option.some.inj H
                      have p7 : 0 ≤ (x3_2 : Int) := of_decide_eq_true (by first | (with_reducible assumption) | assumption)
                      have q7 : x3_2 < (a0.size : Int) := of_decide_eq_true (by first | (with_reducible assumption) | assumption)
                      have hx7 := bt_at a0 x3_2
                      replace p7 := eq_true p7
                      replace q7 := eq_true q7
                      have p9 : 0 ≤ (x3_2 : Int) := of_decide_eq_true (by first | (with_reducible assumption) | assumption)
                      have q9 : x3_2 < (a0.size : Int) := of_decide_eq_true (by first | (with_reducible assumption) | assumption)
                      have hx9 := bt_at a0 x3_2
                      replace p9 := eq_true p9
                      replace q9 := eq_true q9
                      go_wp2
                      go_ret
                      exact ⟨by first | rfl | (simp; done) | (simp [*]; done), by repeat (first | exact Drawn0.refl _ | apply Drawn0.step)⟩
                    · rw [if_neg c11] at H
                      have c11b0 : (x3_2 == 0) = false := beq_eq_false_iff_ne.mpr c11
                      have c11b1 : (x3_2 != 0) = true := bne_iff_ne.mpr c11
                      by_cases c13 : (bt a0 x3_2) = 45
                      · rw [if_pos c13] at H
                        have c13b0 : ((bt a0 x3_2) == 45) = true := beq_iff_eq.mpr c13
                        have c13b1 : ((bt a0 x3_2) != 45) = false := bne_eq_false_iff_eq.mpr c13
                        clear c13
                        have H' := Aside0.mk H
                        clear H
                        have p7 : 0 ≤ (x3_2 : Int) := of_decide_eq_true (by first | (with_reducible assumption) | assumption)
                        have q7 : x3_2 < (a0.size : Int) := of_decide_eq_true (by first | (with_reducible assumption) | assumption)
                        have hx7 := bt_at a0 x3_2
                        replace p7 := eq_true p7
                        replace q7 := eq_true q7
                        have p9 : 0 ≤ (x3_2 : Int) := of_decide_eq_true (by first | (with_reducible assumption) | assumption)
                        have q9 : x3_2 < (a0.size : Int) := of_decide_eq_true (by first | (with_reducible assumption) | assumption)
                        have hx9 := bt_at a0 x3_2
                        replace p9 := eq_true p9
                        replace q9 := eq_true q9
                        have p12 : 0 ≤ (x3_2 : Int) := of_decide_eq_true (by first | (with_reducible assumption) | assumption)
                        have q12 : x3_2 < (a0.size : Int) := of_decide_eq_true (by first | (with_reducible assumption) | assumption)
                        have hx12 := bt_at a0 x3_2
                        replace p12 := eq_true p12
                        replace q12 := eq_true q12
                        go_wp2
                        go_roundg k2
                        case measure => have := HJ1.out; have := HK2.out; omega
                        case rel => exact ⟨(wrap64 (x3_2 + 1)), (by first | rfl | (simp; done) | (simp [*]; done)), H', ⟨by have := HJ1.out; have := HK2.out; omega⟩, by repeat (first | exact Drawn0.refl _ | apply Drawn0.step)⟩
                      · rw [if_neg c13] at H
                        have c13b0 : ((bt a0 x3_2) == 45) = false := beq_eq_false_iff_ne.mpr c13
                        have c13b1 : ((bt a0 x3_2) != 45) = true := bne_iff_ne.mpr c13
                        by_cases c15 : (bt a0 x3_2) < 48
                        · rw [if_pos c15] at H
                          have c15b0 : decide ((bt a0 x3_2) < 48) = true := decide_eq_true c15
                          clear c15
                          obtain rfl := Option.some.inj H
                          have p7 : 0 ≤ (x3_2 : Int) := of_decide_eq_true (by first | (with_reducible assumption) | assumption)
                          have q7 : x3_2 < (a0.size : Int) := of_decide_eq_true (by first | (with_reducible assumption) | assumption)
                          have hx7 := bt_at a0 x3_2
                          replace p7 := eq_true p7
                          replace q7 := eq_true q7
                          have p9 : 0 ≤ (x3_2 : Int) := of_decide_eq_true (by first | (with_reducible assumption) | assumption)
                          have q9 : x3_2 < (a0.size : Int) := of_decide_eq_true (by first | (with_reducible assumption) | assumption)
                          have hx9 := bt_at a0 x3_2
                          replace p9 := eq_true p9
                          replace q9 := eq_true q9
                          have p12 : 0 ≤ (x3_2 : Int) := of_decide_eq_true (by first | (with_reducible assumption) | assumption)
                          have q12 : x3_2 < (a0.size : Int) := of_decide_eq_true (by first | (with_reducible assumption) | assumption)
                          have hx12 := bt_at a0 x3_2
                          replace p12 := eq_true p12
                          replace q12 := eq_true q12
                          have p14 : 0 ≤ (x3_2 : Int) := of_decide_eq_true (by first | (with_reducible assumption) | assumption)
                          have q14 : x3_2 < (a0.size : Int) := of_decide_eq_true (by first | (with_reducible assumption) | assumption)
                          have hx14 := bt_at a0 x3_2
                          replace p14 := eq_true p14
                          replace q14 := eq_true q14
                          go_wp2
                          go_ret
                          exact ⟨by first | rfl | (simp; done) | (simp [*]; done), by repeat (first | exact Drawn0.refl _ | apply Drawn0.step)⟩
                        · rw [if_neg c15] at H
                          have c15b0 : decide ((bt a0 x3_2) < 48) = false := decide_eq_false c15
                          clear c15
                          by_cases c17 : (bt a0 x3_2) > 57
                          · rw [if_pos c17] at H
                            have c17b0 : decide (57 < (bt a0 x3_2)) = true := decide_eq_true c17
                            clear c17
                            obtain rfl := Option.some.inj H
                            have p7 : 0 ≤ (x3_2 : Int) := of_decide_eq_true (by first | (with_reducible assumption) | assumption)
                            have q7 : x3_2 < (a0.size : Int) := of_decide_eq_true (by first | (with_reducible assumption) | assumption)
                            have hx7 := bt_at a0 x3_2
                            replace p7 := eq_true p7
                            replace q7 := eq_true q7
                            have p9 : 0 ≤ (x3_2 : Int) := of_decide_eq_true (by first | (with_reducible assumption) | assumption)
                            have q9 : x3_2 < (a0.size : Int) := of_decide_eq_true (by first | (with_reducible assumption) | assumption)
                            have hx9 := bt_at a0 x3_2
                            replace p9 := eq_true p9
                            replace q9 := eq_true q9
                            have p12 : 0 ≤ (x3_2 : Int) := of_decide_eq_true (by first | (with_reducible assumption) | assumption)
                            have q12 : x3_2 < (a0.size : Int) := of_decide_eq_true (by first | (with_reducible assumption) | assumption)
                            have hx12 := bt_at a0 x3_2
                            replace p12 := eq_true p12
                            replace q12 := eq_true q12
                            have p14 : 0 ≤ (x3_2 : Int) := of_decide_eq_true (by first | (with_reducible assumption) | assumption)
                            have q14 : x3_2 < (a0.size : Int) := of_decide_eq_true (by first | (with_reducible assumption) | assumption)
                            have hx14 := bt_at a0 x3_2
                            replace p14 := eq_true p14
                            replace q14 := eq_true q14
                            have p16 : 0 ≤ (x3_2 : Int) := of_decide_eq_true (by first | (with_reducible assumption) | assumption)
                            have q16 : x3_2 < (a0.size : Int) := of_decide_eq_true (by first | (with_reducible assumption) | assumption)
                            have hx16 := bt_at a0 x3_2
                            replace p16 := eq_true p16
                            replace q16 := eq_true q16
                            go_wp2
                            go_ret
                            exact ⟨by first | rfl | (simp; done) | (simp [*]; done), by repeat (first | exact Drawn0.refl _ | apply Drawn0.step)⟩
                          · rw [if_neg c17] at H
                            have c17b0 : decide (57 < (bt a0 x3_2)) = false := decide_eq_false c17
                            clear c17
                            have H' := Aside0.mk H
                            clear H
                            have p7 : 0 ≤ (x3_2 : Int) := of_decide_eq_true (by first | (with_reducible assumption) | assumption)
                            have q7 : x3_2 < (a0.size : Int) := of_decide_eq_true (by first | (with_reducible assumption) | assumption)
                            have hx7 := bt_at a0 x3_2
                            replace p7 := eq_true p7
                            replace q7 := eq_true q7
                            have p9 : 0 ≤ (x3_2 : Int) := of_decide_eq_true (by first | (with_reducible assumption) | assumption)
                            have q9 : x3_2 < (a0.size : Int) := of_decide_eq_true (by first | (with_reducible assumption) | assumption)
                            have hx9 := bt_at a0 x3_2
                            replace p9 := eq_true p9
                            replace q9 := eq_true q9
                            have p12 : 0 ≤ (x3_2 : Int) := of_decide_eq_true (by first | (with_reducible assumption) | assumption)
                            have q12 : x3_2 < (a0.size : Int) := of_decide_eq_true (by first | (with_reducible assumption) | assumption)
                            have hx12 := bt_at a0 x3_2
                            replace p12 := eq_true p12
                            replace q12 := eq_true q12
                            have p14 : 0 ≤ (x3_2 : Int) := of_decide_eq_true (by first | (with_reducible assumption) | assumption)
                            have q14 : x3_2 < (a0.size : Int) := of_decide_eq_true (by first | (with_reducible assumption) | assumption)
                            have hx14 := bt_at a0 x3_2
                            replace p14 := eq_true p14
                            replace q14 := eq_true q14
                            have p16 : 0 ≤ (x3_2 : Int) := of_decide_eq_true (by first | (with_reducible assumption) | assumption)
                            have q16 : x3_2 < (a0.size : Int) := of_decide_eq_true (by first | (with_reducible assumption) | assumption)
                            have hx16 := bt_at a0 x3_2
                            replace p16 := eq_true p16
                            replace q16 := eq_true q16
                            go_wp2
                            go_roundg k2
                            case measure => have := HJ1.out; have := HK2.out; omega
                            case rel => exact ⟨(wrap64 (x3_2 + 1)), (by first | rfl | (simp; done) | (simp [*]; done)), H', ⟨by have := HJ1.out; have := HK2.out; omega⟩, by repeat (first | exact Drawn0.refl _ | apply Drawn0.step)⟩
                · rw [if_neg c8] at H
                  have c8b0 : decide (97 ≤ (bt a0 x3_2)) = false := decide_eq_false c8
                  clear c8
                  by_cases c18 : x3_2 = 0
                  · rw [if_pos c18] at H
                    have c18b0 : (x3_2 == 0) = true := beq_iff_eq.mpr c18
                    have c18b1 : (x3_2 != 0) = false := bne_eq_false_iff_eq.mpr c18
                    clear c18
                    obtain rfl := Option.some.inj H
                    have p7 : 0 ≤ (x3_2 : Int) := of_decide_eq_true (by first | (with_reducible assumption) | assumption)
                    have q7 : x3_2 < (a0.size : Int) := of_decide_eq_true (by first | (with_reducible assumption) | assumption)
                    have hx7 := bt_at a0 x3_2
                    replace p7 := eq_true p7
                    replace q7 := eq_true q7
                    go_wp2
                    go_ret
                    exact ⟨by first | rfl | (simp; done) | (simp [*]; done), by repeat (first | exact Drawn0.refl _ | apply Drawn0.step)⟩
                  · rw [if_neg c18] at H
                    have c18b0 : (x3_2 == 0) = false := beq_eq_false_iff_ne.mpr c18
                    have c18b1 : (x3_2 != 0) = true := bne_iff_ne.mpr c18
                    by_cases c20 : (bt a0 x3_2) = 45
                    · rw [if_pos c20] at H
                      have c20b0 : ((bt a0 x3_2) == 45) = true := beq_iff_eq.mpr c20
                      have c20b1 : ((bt a0 x3_2) != 45) = false := bne_eq_false_iff_eq.mpr c20
                      clear c20
                      have H' := Aside0.mk H
                      clear H
                      have p7 : 0 ≤ (x3_2 : Int) := of_decide_eq_true (by first | (with_reducible assumption) | assumption)
                      have q7 : x3_2 < (a0.size : Int) := of_decide_eq_true (by first | (with_reducible assumption) | assumption)
                      have hx7 := bt_at a0 x3_2
                      replace p7 := eq_true p7
                      replace q7 := eq_true q7
                      have p19 : 0 ≤ (x3_2 : Int) := of_decide_eq_true (by first | (with_reducible assumption) | assumption)
                      have q19 : x3_2 < (a0.size : Int) := of_decide_eq_true (by first | (with_reducible assumption) | assumption)
                      have hx19 := bt_at a0 x3_2
                      replace p19 := eq_true p19
                      replace q19 := eq_true q19
                      go_wp2
                      go_roundg k2
                      case measure => have := HJ1.out; have := HK2.out; omega
                      case rel => exact ⟨(wrap64 (x3_2 + 1)), (by first | rfl | (simp; done) | (simp [*]; done)), H', ⟨by have := HJ1.out; have := HK2.out; omega⟩, by repeat (first | exact Drawn0.refl _ | apply Drawn0.step)⟩
                    · rw [if_neg c20] at H
                      have c20b0 : ((bt a0 x3_2) == 45) = false := beq_eq_false_iff_ne.mpr c20
                      have c20b1 : ((bt a0 x3_2) != 45) = true := bne_iff_ne.mpr c20
                      by_cases c22 : (bt a0 x3_2) < 48
                      · rw [if_pos c22] at H
                        have c22b0 : decide ((bt a0 x3_2) < 48) = true := decide_eq_true c22
                        clear c22
                        obtain rfl := Option.some.inj H
                        have p7 : 0 ≤ (x3_2 : Int) := of_decide_eq_true (by first | (with_reducible assumption) | assumption)
                        have q7 : x3_2 < (a0.size : Int) := of_decide_eq_true (by first | (with_reducible assumption) | assumption)
                        have hx7 := bt_at a0 x3_2
                        replace p7 := eq_true p7
                        replace q7 := eq_true q7
                        have p19 : 0 ≤ (x3_2 : Int) := of_decide_eq_true (by first | (with_reducible assumption) | assumption)
                        have q19 : x3_2 < (a0.size : Int) := of_decide_eq_true (by first | (with_reducible assumption) | assumption)
                        have hx19 := bt_at a0 x3_2
                        replace p19 := eq_true p19
                        replace q19 := eq_true q19
                        have p21 : 0 ≤ (x3_2 : Int) := of_decide_eq_true (by first | (with_reducible assumption) | assumption)
                        have q21 : x3_2 < (a0.size : Int) := of_decide_eq_true (by first | (with_reducible assumption) | assumption)
                        have hx21 := bt_at a0 x3_2
                        replace p21 := eq_true p21
                        replace q21 := eq_true q21
                        go_wp2
                        go_ret
                        exact ⟨by first | rfl | (simp; done) | (simp [*]; done), by repeat (first | exact Drawn0.refl _ | apply Drawn0.step)⟩
                      · rw [if_neg c22] at H
                        have c22b0 : decide ((bt a0 x3_2) < 48) = false := decide_eq_false c22
                        clear c22
                        by_cases c24 : (bt a0 x3_2) > 57
                        · rw [if_pos c24] at H
                          have c24b0 : decide (57 < (bt a0 x3_2)) = true := decide_eq_true c24
                          clear c24
                          obtain rfl := Option.some.inj H
                          have p7 : 0 ≤ (x3_2 : Int) := of_decide_eq_true (by first | (with_reducible assumption) | assumption)
                          have q7 : x3_2 < (a0.size : Int) := of_decide_eq_true (by first | (with_reducible assumption) | assumption)
                          have hx7 := bt_at a0 x3_2
                          replace p7 := eq_true p7
                          replace q7 := eq_true q7
                          have p19 : 0 ≤ (x3_2 : Int) := of_decide_eq_true (by first | (with_reducible assumption) | assumption)
                          have q19 : x3_2 < (a0.size : Int) := of_decide_eq_true (by first | (with_reducible assumption) | assumption)
                          have hx19 := bt_at a0 x3_2
                          replace p19 := eq_true p19
                          replace q19 := eq_true q19
                          have p21 : 0 ≤ (x3_2 : Int) := of_decide_eq_true (by first | (with_reducible assumption) | assumption)
                          have q21 : x3_2 < (a0.size : Int) := of_decide_eq_true (by first | (with_reducible assumption) | assumption)
                          have hx21 := bt_at a0 x3_2
                          replace p21 := eq_true p21
                          replace q21 := eq_true q21
                          have p23 : 0 ≤ (x3_2 : Int) := of_decide_eq_true (by first | (with_reducible assumption) | assumption)
                          have q23 : x3_2 < (a0.size : Int) := of_decide_eq_true (by first | (with_reducible assumption) | assumption)
                          have hx23 := bt_at a0 x3_2
                          replace p23 := eq_true p23
                          replace q23 := eq_true q23
                          go_wp2
                          go_ret
                          exact ⟨by first | rfl | (simp; done) | (simp [*]; done), by repeat (first | exact Drawn0.refl _ | apply Drawn0.step)⟩
                        · rw [if_neg c24] at H
                          have c24b0 : decide (57 < (bt a0 x3_2)) = false := decide_eq_false c24
                          clear c24
                          have H' := Aside0.mk H
                          clear H
                          have p7 : 0 ≤ (x3_2 : Int) := of_decide_eq_true (by first | (with_reducible assumption) | assumption)
                          have q7 : x3_2 < (a0.size : Int) := of_decide_eq_true (by first | (with_reducible assumption) | assumption)
                          have hx7 := bt_at a0 x3_2
                          replace p7 := eq_true p7
                          replace q7 := eq_true q7
                          have p19 : 0 ≤ (x3_2 : Int) := of_decide_eq_true (by first | (with_reducible assumption) | assumption)
                          have q19 : x3_2 < (a0.size : Int) := of_decide_eq_true (by first | (with_reducible assumption) | assumption)
                          have hx19 := bt_at a0 x3_2
                          replace p19 := eq_true p19
                          replace q19 := eq_true q19
                          have p21 : 0 ≤ (x3_2 : Int) := of_decide_eq_true (by first | (with_reducible assumption) | assumption)
                          have q21 : x3_2 < (a0.size : Int) := of_decide_eq_true (by first | (with_reducible assumption) | assumption)
                          have hx21 := bt_at a0 x3_2
                          replace p21 := eq_true p21
                          replace q21 := eq_true q21
                          have p23 : 0 ≤ (x3_2 : Int) := of_decide_eq_true (by first | (with_reducible assumption) | assumption)
                          have q23 : x3_2 < (a0.size : Int) := of_decide_eq_true (by first | (with_reducible assumption) | assumption)
                          have hx23 := bt_at a0 x3_2
                          replace p23 := eq_true p23
                          replace q23 := eq_true q23
                          go_wp2
                          go_roundg k2
                          case measure => have := HJ1.out; have := HK2.out; omega
                          case rel => exact ⟨(wrap64 (x3_2 + 1)), (by first | rfl | (simp; done) | (simp [*]; done)), H', ⟨by have := HJ1.out; have := HK2.out; omega⟩, by repeat (first | exact Drawn0.refl _ | apply Drawn0.step)⟩
              · rw [if_neg c6] at H
                exact absurd H (by simp)
            · rw [if_neg c5] at H
              have c5b0 : decide (x3_2 < (a0.size : Int)) = false := decide_eq_false c5
              clear c5
              obtain rfl := Option.some.inj H
              go_wp2
              go_ret
              exact ⟨by first | rfl | (simp; done) | (simp [*]; done), by repeat (first | exact Drawn0.refl _ | apply Drawn0.step)⟩

/-! ### names_valid: function 26 -/
def names_valid.f (k : Nat) (a0_0 : Int) (a0_1 : Int) (a0_2 : Int) (a0_3 : ByteArray) : Option (Bool) := if a0_0 ≥ 0 then (if a0_0 ≤ 1099511627776 then (if a0_1 = 1 then (if a0_2 ≥ 0 then (if a0_2 < 4294967295 then (if a0_3.toList = ([] : List UInt8) then (some true) else ((names_word.f k a0_3).bind fun t156 => (some t156))) else (some false)) else (some false)) else (if a0_1 = 2 then (if a0_2 ≥ 0 then (if a0_2 < 4294967295 then (if a0_3.toList = ([] : List UInt8) then (some true) else ((names_word.f k a0_3).bind fun t157 => (some t157))) else (some false)) else (some false)) else (some false))) else (some false)) else (some false)
theorem names_valid.mono : ∀ a0 a1 a2 a3 k, LeO (names_valid.f k a0 a1 a2 a3) (names_valid.f (k + 1) a0 a1 a2 a3) := by
  intro a0 a1 a2 a3 k
  unfold names_valid.f
  repeat' first
      | (with_reducible exact names_word.mono _ _)
      | (with_reducible exact LeO.refl _)
      | (with_reducible exact LeO.none _)
      | (with_reducible refine LeO.ite ?_ ?_)
      | (with_reducible refine LeO.bind ?_ (fun _ => ?_))
      | exact names_word.mono _ _
      | exact LeO.none _
      | refine LeO.ite ?_ ?_
      | refine LeO.bind ?_ (fun _ => ?_)
set_option maxHeartbeats 8000000 in
set_option maxRecDepth 100000 in
theorem names_valid.calls (k : Nat) (a0_0 : Int) (a0_1 : Int) (a0_2 : Int) (a0_3 : ByteArray) (r : Bool) (w : World) (h : names_valid.f k a0_0 a0_1 a0_2 a0_3 = some r) :
    Calls Tryd.prog 26 #[.agg #[.int .i64 a0_0, .int .i64 a0_1, .int .i64 a0_2, .string a0_3]] w fun e w' => e = .returned (.bool r) ∧ Below w.heap.size w w' := by
  have hu43 := Tryd.underlying43
  have HB := Aside0.mk (Below.refl w.heap.size w)
  have H : (if a0_0 ≥ 0 then (if a0_0 ≤ 1099511627776 then (if a0_1 = 1 then (if a0_2 ≥ 0 then (if a0_2 < 4294967295 then (if a0_3.toList = ([] : List UInt8) then (some true) else ((names_word.f k a0_3).bind fun t156 => (some t156))) else (some false)) else (some false)) else (if a0_1 = 2 then (if a0_2 ≥ 0 then (if a0_2 < 4294967295 then (if a0_3.toList = ([] : List UInt8) then (some true) else ((names_word.f k a0_3).bind fun t157 => (some t157))) else (some false)) else (some false)) else (some false))) else (some false)) else (some false)) = some r := h
  clear h
  by_cases c2 : a0_0 ≥ 0
  · rw [if_pos c2] at H
    have c2b0 : decide (0 ≤ a0_0) = true := decide_eq_true c2
    clear c2
    by_cases c3 : a0_0 ≤ 1099511627776
    · rw [if_pos c3] at H
      have c3b0 : decide (a0_0 ≤ 1099511627776) = true := decide_eq_true c3
      clear c3
      by_cases c4 : a0_1 = 1
      · rw [if_pos c4] at H
        have c4b0 : (a0_1 == 1) = true := beq_iff_eq.mpr c4
        have c4b1 : (a0_1 != 1) = false := bne_eq_false_iff_eq.mpr c4
        clear c4
        by_cases c5 : a0_2 ≥ 0
        · rw [if_pos c5] at H
          have c5b0 : decide (0 ≤ a0_2) = true := decide_eq_true c5
          clear c5
          by_cases c6 : a0_2 < 4294967295
          · rw [if_pos c6] at H
            have c6b0 : decide (a0_2 < 4294967295) = true := decide_eq_true c6
            clear c6
            by_cases c7 : a0_3.toList = ([] : List UInt8)
            · rw [if_pos c7] at H
              have c7b0 : (a0_3.toList == ([] : List UInt8)) = true := beq_iff_eq.mpr c7
              have c7b1 : (a0_3.toList != ([] : List UInt8)) = false := bne_eq_false_iff_eq.mpr c7
              clear c7
              obtain rfl := Option.some.inj H
              go_enter Tryd.func26, Tryd.ntmps26
              go_wp2_with (first | ((with_reducible refine gate_dst (N := 1) rfl ?_); refine box_event ?hg (N := 1) ?hd (cs := #[.int .i64 a0_0, .int .i64 a0_1, .int .i64 a0_2, .string a0_3]) (t := 43) ?hr ?_; (case hd => rfl); (case hg => rfl); (case hr => first | (go_simp; done) | (go_simp; rfl)); intro gb155 hg w8 hbox hb; have n0_ := Aside0.mk (below_step (by repeat (first | (with_reducible first | exact HB.out | apply below_alloc | apply pw_below_drewN | apply below_drew1) | exact HB.out)) hb); have n1_ := Aside0.mk (hbox); have n2_ := Aside0.mk ((by rw [hg]; exact (below_size (by repeat (first | (with_reducible first | exact HB.out | apply below_alloc | apply pw_below_drewN | apply below_drew1) | exact HB.out))) : w.heap.size ≤ gb155)); have n3_ := Aside0.mk ((by rw [hg]; exact (below_size (by repeat (first | (with_reducible first | exact HB.out | apply below_alloc | apply pw_below_drewN | apply below_drew1) | exact HB.out))) : w.heap.size ≤ gb155)); clear HB; have HB := n0_; have BK155 := n1_; have GW155 := n2_; have GE155 := n3_; clear n0_ n1_ n2_ n3_; clear hb hbox hg; have hcz9_0 : w8.cell? ⟨gb155, 0, none⟩ = some (.int .i64 a0_0) := (blk_cell BK155.out 0).trans rfl; have hcz9_1 : w8.cell? ⟨gb155, 1, none⟩ = some (.int .i64 a0_1) := (blk_cell BK155.out 1).trans rfl; have hcz9_2 : w8.cell? ⟨gb155, 2, none⟩ = some (.int .i64 a0_2) := (blk_cell BK155.out 2).trans rfl; have hcz9_3 : w8.cell? ⟨gb155, 3, none⟩ = some (.string a0_3) := (blk_cell BK155.out 3).trans rfl; have hfz9_0 := blk_frozen BK155.out 0; have hfz9_1 := blk_frozen BK155.out 1; have hfz9_2 := blk_frozen BK155.out 2; have hfz9_3 := blk_frozen BK155.out 3))
              go_ret
              exact ⟨by first | rfl | (simp only [show ∀ l_ : List UInt8, (l_ != ([] : List UInt8)) = !l_.isEmpty from (fun l_ => by cases l_ <;> rfl), show ∀ l_ : List UInt8, (l_ == ([] : List UInt8)) = l_.isEmpty from (fun l_ => by cases l_ <;> rfl)]; rfl) | (simp [errW_none, errW_some] <;> rfl) | (simp [*, errW_none, errW_some] <;> rfl), by repeat (first | (with_reducible first | exact HB.out | apply below_alloc | apply pw_below_drewN | apply below_drew1 | refine below_set ?_ GE155.out) | exact HB.out)⟩
            · rw [if_neg c7] at H
              have c7b0 : (a0_3.toList == ([] : List UInt8)) = false := beq_eq_false_iff_ne.mpr c7
              have c7b1 : (a0_3.toList != ([] : List UInt8)) = true := bne_iff_ne.mpr c7
              replace H := Option.bind_eq_some_iff.mp H
              obtain ⟨t156, A100, H⟩ := H
              replace H : (some t156) = some r := H
              have A10 := Aside0.mk A100
              clear A100
              obtain rfl := Option.some.inj H
              go_enter Tryd.func26, Tryd.ntmps26
              go_wp2_with (first | ((with_reducible refine gate_dst (N := 1) rfl ?_); refine box_event ?hg (N := 1) ?hd (cs := #[.int .i64 a0_0, .int .i64 a0_1, .int .i64 a0_2, .string a0_3]) (t := 43) ?hr ?_; (case hd => rfl); (case hg => rfl); (case hr => first | (go_simp; done) | (go_simp; rfl)); intro gb155 hg w11 hbox hb; have n0_ := Aside0.mk (below_step (by repeat (first | (with_reducible first | exact HB.out | apply below_alloc | apply pw_below_drewN | apply below_drew1) | exact HB.out)) hb); have n1_ := Aside0.mk (hbox); have n2_ := Aside0.mk ((by rw [hg]; exact (below_size (by repeat (first | (with_reducible first | exact HB.out | apply below_alloc | apply pw_below_drewN | apply below_drew1) | exact HB.out))) : w.heap.size ≤ gb155)); have n3_ := Aside0.mk ((by rw [hg]; exact (below_size (by repeat (first | (with_reducible first | exact HB.out | apply below_alloc | apply pw_below_drewN | apply below_drew1) | exact HB.out))) : w.heap.size ≤ gb155)); clear HB; have HB := n0_; have BK155 := n1_; have GW155 := n2_; have GE155 := n3_; clear n0_ n1_ n2_ n3_; clear hb hbox hg; have hcz12_0 : w11.cell? ⟨gb155, 0, none⟩ = some (.int .i64 a0_0) := (blk_cell BK155.out 0).trans rfl; have hcz12_1 : w11.cell? ⟨gb155, 1, none⟩ = some (.int .i64 a0_1) := (blk_cell BK155.out 1).trans rfl; have hcz12_2 : w11.cell? ⟨gb155, 2, none⟩ = some (.int .i64 a0_2) := (blk_cell BK155.out 2).trans rfl; have hcz12_3 : w11.cell? ⟨gb155, 3, none⟩ = some (.string a0_3) := (blk_cell BK155.out 3).trans rfl; have hfz12_0 := blk_frozen BK155.out 0; have hfz12_1 := blk_frozen BK155.out 1; have hfz12_2 := blk_frozen BK155.out 2; have hfz12_3 := blk_frozen BK155.out 3) | (go_at_call 43; (with_reducible refine (names_word.calls k a0_3 t156 _ A10.out).mono ?_); rintro e w' ⟨rfl, ⟨nd, rfl⟩⟩))
              go_ret
              exact ⟨by first | rfl | (simp only [show ∀ l_ : List UInt8, (l_ != ([] : List UInt8)) = !l_.isEmpty from (fun l_ => by cases l_ <;> rfl), show ∀ l_ : List UInt8, (l_ == ([] : List UInt8)) = l_.isEmpty from (fun l_ => by cases l_ <;> rfl)]; rfl) | (simp [errW_none, errW_some] <;> rfl) | (simp [*, errW_none, errW_some] <;> rfl), by repeat (first | (with_reducible first | exact HB.out | apply below_alloc | apply pw_below_drewN | apply below_drew1 | refine below_set ?_ GE155.out) | exact HB.out)⟩
          · rw [if_neg c6] at H
            have c6b0 : decide (a0_2 < 4294967295) = false := decide_eq_false c6
            clear c6
            obtain rfl := Option.some.inj H
            go_enter Tryd.func26, Tryd.ntmps26
            go_wp2_with (first | ((with_reducible refine gate_dst (N := 1) rfl ?_); refine box_event ?hg (N := 1) ?hd (cs := #[.int .i64 a0_0, .int .i64 a0_1, .int .i64 a0_2, .string a0_3]) (t := 43) ?hr ?_; (case hd => rfl); (case hg => rfl); (case hr => first | (go_simp; done) | (go_simp; rfl)); intro gb155 hg w13 hbox hb; have n0_ := Aside0.mk (below_step (by repeat (first | (with_reducible first | exact HB.out | apply below_alloc | apply pw_below_drewN | apply below_drew1) | exact HB.out)) hb); have n1_ := Aside0.mk (hbox); have n2_ := Aside0.mk ((by rw [hg]; exact (below_size (by repeat (first | (with_reducible first | exact HB.out | apply below_alloc | apply pw_below_drewN | apply below_drew1) | exact HB.out))) : w.heap.size ≤ gb155)); have n3_ := Aside0.mk ((by rw [hg]; exact (below_size (by repeat (first | (with_reducible first | exact HB.out | apply below_alloc | apply pw_below_drewN | apply below_drew1) | exact HB.out))) : w.heap.size ≤ gb155)); clear HB; have HB := n0_; have BK155 := n1_; have GW155 := n2_; have GE155 := n3_; clear n0_ n1_ n2_ n3_; clear hb hbox hg; have hcz14_0 : w13.cell? ⟨gb155, 0, none⟩ = some (.int .i64 a0_0) := (blk_cell BK155.out 0).trans rfl; have hcz14_1 : w13.cell? ⟨gb155, 1, none⟩ = some (.int .i64 a0_1) := (blk_cell BK155.out 1).trans rfl; have hcz14_2 : w13.cell? ⟨gb155, 2, none⟩ = some (.int .i64 a0_2) := (blk_cell BK155.out 2).trans rfl; have hcz14_3 : w13.cell? ⟨gb155, 3, none⟩ = some (.string a0_3) := (blk_cell BK155.out 3).trans rfl; have hfz14_0 := blk_frozen BK155.out 0; have hfz14_1 := blk_frozen BK155.out 1; have hfz14_2 := blk_frozen BK155.out 2; have hfz14_3 := blk_frozen BK155.out 3))
            go_ret
            exact ⟨by first | rfl | (simp only [show ∀ l_ : List UInt8, (l_ != ([] : List UInt8)) = !l_.isEmpty from (fun l_ => by cases l_ <;> rfl), show ∀ l_ : List UInt8, (l_ == ([] : List UInt8)) = l_.isEmpty from (fun l_ => by cases l_ <;> rfl)]; rfl) | (simp [errW_none, errW_some] <;> rfl) | (simp [*, errW_none, errW_some] <;> rfl), by repeat (first | (with_reducible first | exact HB.out | apply below_alloc | apply pw_below_drewN | apply below_drew1 | refine below_set ?_ GE155.out) | exact HB.out)⟩
        · rw [if_neg c5] at H
          have c5b0 : decide (0 ≤ a0_2) = false := decide_eq_false c5
          clear c5
          obtain rfl := Option.some.inj H
          go_enter Tryd.func26, Tryd.ntmps26
          go_wp2_with (first | ((with_reducible refine gate_dst (N := 1) rfl ?_); refine box_event ?hg (N := 1) ?hd (cs := #[.int .i64 a0_0, .int .i64 a0_1, .int .i64 a0_2, .string a0_3]) (t := 43) ?hr ?_; (case hd => rfl); (case hg => rfl); (case hr => first | (go_simp; done) | (go_simp; rfl)); intro gb155 hg w15 hbox hb; have n0_ := Aside0.mk (below_step (by repeat (first | (with_reducible first | exact HB.out | apply below_alloc | apply pw_below_drewN | apply below_drew1) | exact HB.out)) hb); have n1_ := Aside0.mk (hbox); have n2_ := Aside0.mk ((by rw [hg]; exact (below_size (by repeat (first | (with_reducible first | exact HB.out | apply below_alloc | apply pw_below_drewN | apply below_drew1) | exact HB.out))) : w.heap.size ≤ gb155)); have n3_ := Aside0.mk ((by rw [hg]; exact (below_size (by repeat (first | (with_reducible first | exact HB.out | apply below_alloc | apply pw_below_drewN | apply below_drew1) | exact HB.out))) : w.heap.size ≤ gb155)); clear HB; have HB := n0_; have BK155 := n1_; have GW155 := n2_; have GE155 := n3_; clear n0_ n1_ n2_ n3_; clear hb hbox hg; have hcz16_0 : w15.cell? ⟨gb155, 0, none⟩ = some (.int .i64 a0_0) := (blk_cell BK155.out 0).trans rfl; have hcz16_1 : w15.cell? ⟨gb155, 1, none⟩ = some (.int .i64 a0_1) := (blk_cell BK155.out 1).trans rfl; have hcz16_2 : w15.cell? ⟨gb155, 2, none⟩ = some (.int .i64 a0_2) := (blk_cell BK155.out 2).trans rfl; have hcz16_3 : w15.cell? ⟨gb155, 3, none⟩ = some (.string a0_3) := (blk_cell BK155.out 3).trans rfl; have hfz16_0 := blk_frozen BK155.out 0; have hfz16_1 := blk_frozen BK155.out 1; have hfz16_2 := blk_frozen BK155.out 2; have hfz16_3 := blk_frozen BK155.out 3))
          go_ret
          exact ⟨by first | rfl | (simp only [show ∀ l_ : List UInt8, (l_ != ([] : List UInt8)) = !l_.isEmpty from (fun l_ => by cases l_ <;> rfl), show ∀ l_ : List UInt8, (l_ == ([] : List UInt8)) = l_.isEmpty from (fun l_ => by cases l_ <;> rfl)]; rfl) | (simp [errW_none, errW_some] <;> rfl) | (simp [*, errW_none, errW_some] <;> rfl), by repeat (first | (with_reducible first | exact HB.out | apply below_alloc | apply pw_below_drewN | apply below_drew1 | refine below_set ?_ GE155.out) | exact HB.out)⟩
      · rw [if_neg c4] at H
        have c4b0 : (a0_1 == 1) = false := beq_eq_false_iff_ne.mpr c4
        have c4b1 : (a0_1 != 1) = true := bne_iff_ne.mpr c4
        by_cases c17 : a0_1 = 2
        · rw [if_pos c17] at H
          have c17b0 : (a0_1 == 2) = true := beq_iff_eq.mpr c17
          have c17b1 : (a0_1 != 2) = false := bne_eq_false_iff_eq.mpr c17
          clear c17
          by_cases c18 : a0_2 ≥ 0
          · rw [if_pos c18] at H
            have c18b0 : decide (0 ≤ a0_2) = true := decide_eq_true c18
            clear c18
            by_cases c19 : a0_2 < 4294967295
            · rw [if_pos c19] at H
              have c19b0 : decide (a0_2 < 4294967295) = true := decide_eq_true c19
              clear c19
              by_cases c20 : a0_3.toList = ([] : List UInt8)
              · rw [if_pos c20] at H
                have c20b0 : (a0_3.toList == ([] : List UInt8)) = true := beq_iff_eq.mpr c20
                have c20b1 : (a0_3.toList != ([] : List UInt8)) = false := bne_eq_false_iff_eq.mpr c20
                clear c20
                obtain rfl := Option.some.inj H
                go_enter Tryd.func26, Tryd.ntmps26
                go_wp2_with (first | ((with_reducible refine gate_dst (N := 1) rfl ?_); refine box_event ?hg (N := 1) ?hd (cs := #[.int .i64 a0_0, .int .i64 a0_1, .int .i64 a0_2, .string a0_3]) (t := 43) ?hr ?_; (case hd => rfl); (case hg => rfl); (case hr => first | (go_simp; done) | (go_simp; rfl)); intro gb155 hg w21 hbox hb; have n0_ := Aside0.mk (below_step (by repeat (first | (with_reducible first | exact HB.out | apply below_alloc | apply pw_below_drewN | apply below_drew1) | exact HB.out)) hb); have n1_ := Aside0.mk (hbox); have n2_ := Aside0.mk ((by rw [hg]; exact (below_size (by repeat (first | (with_reducible first | exact HB.out | apply below_alloc | apply pw_below_drewN | apply below_drew1) | exact HB.out))) : w.heap.size ≤ gb155)); have n3_ := Aside0.mk ((by rw [hg]; exact (below_size (by repeat (first | (with_reducible first | exact HB.out | apply below_alloc | apply pw_below_drewN | apply below_drew1) | exact HB.out))) : w.heap.size ≤ gb155)); clear HB; have HB := n0_; have BK155 := n1_; have GW155 := n2_; have GE155 := n3_; clear n0_ n1_ n2_ n3_; clear hb hbox hg; have hcz22_0 : w21.cell? ⟨gb155, 0, none⟩ = some (.int .i64 a0_0) := (blk_cell BK155.out 0).trans rfl; have hcz22_1 : w21.cell? ⟨gb155, 1, none⟩ = some (.int .i64 a0_1) := (blk_cell BK155.out 1).trans rfl; have hcz22_2 : w21.cell? ⟨gb155, 2, none⟩ = some (.int .i64 a0_2) := (blk_cell BK155.out 2).trans rfl; have hcz22_3 : w21.cell? ⟨gb155, 3, none⟩ = some (.string a0_3) := (blk_cell BK155.out 3).trans rfl; have hfz22_0 := blk_frozen BK155.out 0; have hfz22_1 := blk_frozen BK155.out 1; have hfz22_2 := blk_frozen BK155.out 2; have hfz22_3 := blk_frozen BK155.out 3))
                go_ret
                exact ⟨by first | rfl | (simp only [show ∀ l_ : List UInt8, (l_ != ([] : List UInt8)) = !l_.isEmpty from (fun l_ => by cases l_ <;> rfl), show ∀ l_ : List UInt8, (l_ == ([] : List UInt8)) = l_.isEmpty from (fun l_ => by cases l_ <;> rfl)]; rfl) | (simp [errW_none, errW_some] <;> rfl) | (simp [*, errW_none, errW_some] <;> rfl), by repeat (first | (with_reducible first | exact HB.out | apply below_alloc | apply pw_below_drewN | apply below_drew1 | refine below_set ?_ GE155.out) | exact HB.out)⟩
              · rw [if_neg c20] at H
                have c20b0 : (a0_3.toList == ([] : List UInt8)) = false := beq_eq_false_iff_ne.mpr c20
                have c20b1 : (a0_3.toList != ([] : List UInt8)) = true := bne_iff_ne.mpr c20
                replace H := Option.bind_eq_some_iff.mp H
                obtain ⟨t157, A230, H⟩ := H
                replace H : (some t157) = some r := H
                have A23 := Aside0.mk A230
                clear A230
                obtain rfl := Option.some.inj H
                go_enter Tryd.func26, Tryd.ntmps26
                go_wp2_with (first | ((with_reducible refine gate_dst (N := 1) rfl ?_); refine box_event ?hg (N := 1) ?hd (cs := #[.int .i64 a0_0, .int .i64 a0_1, .int .i64 a0_2, .string a0_3]) (t := 43) ?hr ?_; (case hd => rfl); (case hg => rfl); (case hr => first | (go_simp; done) | (go_simp; rfl)); intro gb155 hg w24 hbox hb; have n0_ := Aside0.mk (below_step (by repeat (first | (with_reducible first | exact HB.out | apply below_alloc | apply pw_below_drewN | apply below_drew1) | exact HB.out)) hb); have n1_ := Aside0.mk (hbox); have n2_ := Aside0.mk ((by rw [hg]; exact (below_size (by repeat (first | (with_reducible first | exact HB.out | apply below_alloc | apply pw_below_drewN | apply below_drew1) | exact HB.out))) : w.heap.size ≤ gb155)); have n3_ := Aside0.mk ((by rw [hg]; exact (below_size (by repeat (first | (with_reducible first | exact HB.out | apply below_alloc | apply pw_below_drewN | apply below_drew1) | exact HB.out))) : w.heap.size ≤ gb155)); clear HB; have HB := n0_; have BK155 := n1_; have GW155 := n2_; have GE155 := n3_; clear n0_ n1_ n2_ n3_; clear hb hbox hg; have hcz25_0 : w24.cell? ⟨gb155, 0, none⟩ = some (.int .i64 a0_0) := (blk_cell BK155.out 0).trans rfl; have hcz25_1 : w24.cell? ⟨gb155, 1, none⟩ = some (.int .i64 a0_1) := (blk_cell BK155.out 1).trans rfl; have hcz25_2 : w24.cell? ⟨gb155, 2, none⟩ = some (.int .i64 a0_2) := (blk_cell BK155.out 2).trans rfl; have hcz25_3 : w24.cell? ⟨gb155, 3, none⟩ = some (.string a0_3) := (blk_cell BK155.out 3).trans rfl; have hfz25_0 := blk_frozen BK155.out 0; have hfz25_1 := blk_frozen BK155.out 1; have hfz25_2 := blk_frozen BK155.out 2; have hfz25_3 := blk_frozen BK155.out 3) | (go_at_call 43; (with_reducible refine (names_word.calls k a0_3 t157 _ A23.out).mono ?_); rintro e w' ⟨rfl, ⟨nd, rfl⟩⟩))
                go_ret
                exact ⟨by first | rfl | (simp only [show ∀ l_ : List UInt8, (l_ != ([] : List UInt8)) = !l_.isEmpty from (fun l_ => by cases l_ <;> rfl), show ∀ l_ : List UInt8, (l_ == ([] : List UInt8)) = l_.isEmpty from (fun l_ => by cases l_ <;> rfl)]; rfl) | (simp [errW_none, errW_some] <;> rfl) | (simp [*, errW_none, errW_some] <;> rfl), by repeat (first | (with_reducible first | exact HB.out | apply below_alloc | apply pw_below_drewN | apply below_drew1 | refine below_set ?_ GE155.out) | exact HB.out)⟩
            · rw [if_neg c19] at H
              have c19b0 : decide (a0_2 < 4294967295) = false := decide_eq_false c19
              clear c19
              obtain rfl := Option.some.inj H
              go_enter Tryd.func26, Tryd.ntmps26
              go_wp2_with (first | ((with_reducible refine gate_dst (N := 1) rfl ?_); refine box_event ?hg (N := 1) ?hd (cs := #[.int .i64 a0_0, .int .i64 a0_1, .int .i64 a0_2, .string a0_3]) (t := 43) ?hr ?_; (case hd => rfl); (case hg => rfl); (case hr => first | (go_simp; done) | (go_simp; rfl)); intro gb155 hg w26 hbox hb; have n0_ := Aside0.mk (below_step (by repeat (first | (with_reducible first | exact HB.out | apply below_alloc | apply pw_below_drewN | apply below_drew1) | exact HB.out)) hb); have n1_ := Aside0.mk (hbox); have n2_ := Aside0.mk ((by rw [hg]; exact (below_size (by repeat (first | (with_reducible first | exact HB.out | apply below_alloc | apply pw_below_drewN | apply below_drew1) | exact HB.out))) : w.heap.size ≤ gb155)); have n3_ := Aside0.mk ((by rw [hg]; exact (below_size (by repeat (first | (with_reducible first | exact HB.out | apply below_alloc | apply pw_below_drewN | apply below_drew1) | exact HB.out))) : w.heap.size ≤ gb155)); clear HB; have HB := n0_; have BK155 := n1_; have GW155 := n2_; have GE155 := n3_; clear n0_ n1_ n2_ n3_; clear hb hbox hg; have hcz27_0 : w26.cell? ⟨gb155, 0, none⟩ = some (.int .i64 a0_0) := (blk_cell BK155.out 0).trans rfl; have hcz27_1 : w26.cell? ⟨gb155, 1, none⟩ = some (.int .i64 a0_1) := (blk_cell BK155.out 1).trans rfl; have hcz27_2 : w26.cell? ⟨gb155, 2, none⟩ = some (.int .i64 a0_2) := (blk_cell BK155.out 2).trans rfl; have hcz27_3 : w26.cell? ⟨gb155, 3, none⟩ = some (.string a0_3) := (blk_cell BK155.out 3).trans rfl; have hfz27_0 := blk_frozen BK155.out 0; have hfz27_1 := blk_frozen BK155.out 1; have hfz27_2 := blk_frozen BK155.out 2; have hfz27_3 := blk_frozen BK155.out 3))
              go_ret
              exact ⟨by first | rfl | (simp only [show ∀ l_ : List UInt8, (l_ != ([] : List UInt8)) = !l_.isEmpty from (fun l_ => by cases l_ <;> rfl), show ∀ l_ : List UInt8, (l_ == ([] : List UInt8)) = l_.isEmpty from (fun l_ => by cases l_ <;> rfl)]; rfl) | (simp [errW_none, errW_some] <;> rfl) | (simp [*, errW_none, errW_some] <;> rfl), by repeat (first | (with_reducible first | exact HB.out | apply below_alloc | apply pw_below_drewN | apply below_drew1 | refine below_set ?_ GE155.out) | exact HB.out)⟩
          · rw [if_neg c18] at H
            have c18b0 : decide (0 ≤ a0_2) = false := decide_eq_false c18
            clear c18
            obtain rfl := Option.some.inj H
            go_enter Tryd.func26, Tryd.ntmps26
            go_wp2_with (first | ((with_reducible refine gate_dst (N := 1) rfl ?_); refine box_event ?hg (N := 1) ?hd (cs := #[.int .i64 a0_0, .int .i64 a0_1, .int .i64 a0_2, .string a0_3]) (t := 43) ?hr ?_; (case hd => rfl); (case hg => rfl); (case hr => first | (go_simp; done) | (go_simp; rfl)); intro gb155 hg w28 hbox hb; have n0_ := Aside0.mk (below_step (by repeat (first | (with_reducible first | exact HB.out | apply below_alloc | apply pw_below_drewN | apply below_drew1) | exact HB.out)) hb); have n1_ := Aside0.mk (hbox); have n2_ := Aside0.mk ((by rw [hg]; exact (below_size (by repeat (first | (with_reducible first | exact HB.out | apply below_alloc | apply pw_below_drewN | apply below_drew1) | exact HB.out))) : w.heap.size ≤ gb155)); have n3_ := Aside0.mk ((by rw [hg]; exact (below_size (by repeat (first | (with_reducible first | exact HB.out | apply below_alloc | apply pw_below_drewN | apply below_drew1) | exact HB.out))) : w.heap.size ≤ gb155)); clear HB; have HB := n0_; have BK155 := n1_; have GW155 := n2_; have GE155 := n3_; clear n0_ n1_ n2_ n3_; clear hb hbox hg; have hcz29_0 : w28.cell? ⟨gb155, 0, none⟩ = some (.int .i64 a0_0) := (blk_cell BK155.out 0).trans rfl; have hcz29_1 : w28.cell? ⟨gb155, 1, none⟩ = some (.int .i64 a0_1) := (blk_cell BK155.out 1).trans rfl; have hcz29_2 : w28.cell? ⟨gb155, 2, none⟩ = some (.int .i64 a0_2) := (blk_cell BK155.out 2).trans rfl; have hcz29_3 : w28.cell? ⟨gb155, 3, none⟩ = some (.string a0_3) := (blk_cell BK155.out 3).trans rfl; have hfz29_0 := blk_frozen BK155.out 0; have hfz29_1 := blk_frozen BK155.out 1; have hfz29_2 := blk_frozen BK155.out 2; have hfz29_3 := blk_frozen BK155.out 3))
            go_ret
            exact ⟨by first | rfl | (simp only [show ∀ l_ : List UInt8, (l_ != ([] : List UInt8)) = !l_.isEmpty from (fun l_ => by cases l_ <;> rfl), show ∀ l_ : List UInt8, (l_ == ([] : List UInt8)) = l_.isEmpty from (fun l_ => by cases l_ <;> rfl)]; rfl) | (simp [errW_none, errW_some] <;> rfl) | (simp [*, errW_none, errW_some] <;> rfl), by repeat (first | (with_reducible first | exact HB.out | apply below_alloc | apply pw_below_drewN | apply below_drew1 | refine below_set ?_ GE155.out) | exact HB.out)⟩
        · rw [if_neg c17] at H
          have c17b0 : (a0_1 == 2) = false := beq_eq_false_iff_ne.mpr c17
          have c17b1 : (a0_1 != 2) = true := bne_iff_ne.mpr c17
          obtain rfl := Option.some.inj H
          go_enter Tryd.func26, Tryd.ntmps26
          go_wp2_with (first | ((with_reducible refine gate_dst (N := 1) rfl ?_); refine box_event ?hg (N := 1) ?hd (cs := #[.int .i64 a0_0, .int .i64 a0_1, .int .i64 a0_2, .string a0_3]) (t := 43) ?hr ?_; (case hd => rfl); (case hg => rfl); (case hr => first | (go_simp; done) | (go_simp; rfl)); intro gb155 hg w30 hbox hb; have n0_ := Aside0.mk (below_step (by repeat (first | (with_reducible first | exact HB.out | apply below_alloc | apply pw_below_drewN | apply below_drew1) | exact HB.out)) hb); have n1_ := Aside0.mk (hbox); have n2_ := Aside0.mk ((by rw [hg]; exact (below_size (by repeat (first | (with_reducible first | exact HB.out | apply below_alloc | apply pw_below_drewN | apply below_drew1) | exact HB.out))) : w.heap.size ≤ gb155)); have n3_ := Aside0.mk ((by rw [hg]; exact (below_size (by repeat (first | (with_reducible first | exact HB.out | apply below_alloc | apply pw_below_drewN | apply below_drew1) | exact HB.out))) : w.heap.size ≤ gb155)); clear HB; have HB := n0_; have BK155 := n1_; have GW155 := n2_; have GE155 := n3_; clear n0_ n1_ n2_ n3_; clear hb hbox hg; have hcz31_0 : w30.cell? ⟨gb155, 0, none⟩ = some (.int .i64 a0_0) := (blk_cell BK155.out 0).trans rfl; have hcz31_1 : w30.cell? ⟨gb155, 1, none⟩ = some (.int .i64 a0_1) := (blk_cell BK155.out 1).trans rfl; have hcz31_2 : w30.cell? ⟨gb155, 2, none⟩ = some (.int .i64 a0_2) := (blk_cell BK155.out 2).trans rfl; have hcz31_3 : w30.cell? ⟨gb155, 3, none⟩ = some (.string a0_3) := (blk_cell BK155.out 3).trans rfl; have hfz31_0 := blk_frozen BK155.out 0; have hfz31_1 := blk_frozen BK155.out 1; have hfz31_2 := blk_frozen BK155.out 2; have hfz31_3 := blk_frozen BK155.out 3))
          go_ret
          exact ⟨by first | rfl | (simp only [show ∀ l_ : List UInt8, (l_ != ([] : List UInt8)) = !l_.isEmpty from (fun l_ => by cases l_ <;> rfl), show ∀ l_ : List UInt8, (l_ == ([] : List UInt8)) = l_.isEmpty from (fun l_ => by cases l_ <;> rfl)]; rfl) | (simp [errW_none, errW_some] <;> rfl) | (simp [*, errW_none, errW_some] <;> rfl), by repeat (first | (with_reducible first | exact HB.out | apply below_alloc | apply pw_below_drewN | apply below_drew1 | refine below_set ?_ GE155.out) | exact HB.out)⟩
    · rw [if_neg c3] at H
      have c3b0 : decide (a0_0 ≤ 1099511627776) = false := decide_eq_false c3
      clear c3
      obtain rfl := Option.some.inj H
      go_enter Tryd.func26, Tryd.ntmps26
      go_wp2_with (first | ((with_reducible refine gate_dst (N := 1) rfl ?_); refine box_event ?hg (N := 1) ?hd (cs := #[.int .i64 a0_0, .int .i64 a0_1, .int .i64 a0_2, .string a0_3]) (t := 43) ?hr ?_; (case hd => rfl); (case hg => rfl); (case hr => first | (go_simp; done) | (go_simp; rfl)); intro gb155 hg w32 hbox hb; have n0_ := Aside0.mk (below_step (by repeat (first | (with_reducible first | exact HB.out | apply below_alloc | apply pw_below_drewN | apply below_drew1) | exact HB.out)) hb); have n1_ := Aside0.mk (hbox); have n2_ := Aside0.mk ((by rw [hg]; exact (below_size (by repeat (first | (with_reducible first | exact HB.out | apply below_alloc | apply pw_below_drewN | apply below_drew1) | exact HB.out))) : w.heap.size ≤ gb155)); have n3_ := Aside0.mk ((by rw [hg]; exact (below_size (by repeat (first | (with_reducible first | exact HB.out | apply below_alloc | apply pw_below_drewN | apply below_drew1) | exact HB.out))) : w.heap.size ≤ gb155)); clear HB; have HB := n0_; have BK155 := n1_; have GW155 := n2_; have GE155 := n3_; clear n0_ n1_ n2_ n3_; clear hb hbox hg; have hcz33_0 : w32.cell? ⟨gb155, 0, none⟩ = some (.int .i64 a0_0) := (blk_cell BK155.out 0).trans rfl; have hcz33_1 : w32.cell? ⟨gb155, 1, none⟩ = some (.int .i64 a0_1) := (blk_cell BK155.out 1).trans rfl; have hcz33_2 : w32.cell? ⟨gb155, 2, none⟩ = some (.int .i64 a0_2) := (blk_cell BK155.out 2).trans rfl; have hcz33_3 : w32.cell? ⟨gb155, 3, none⟩ = some (.string a0_3) := (blk_cell BK155.out 3).trans rfl; have hfz33_0 := blk_frozen BK155.out 0; have hfz33_1 := blk_frozen BK155.out 1; have hfz33_2 := blk_frozen BK155.out 2; have hfz33_3 := blk_frozen BK155.out 3))
      go_ret
      exact ⟨by first | rfl | (simp only [show ∀ l_ : List UInt8, (l_ != ([] : List UInt8)) = !l_.isEmpty from (fun l_ => by cases l_ <;> rfl), show ∀ l_ : List UInt8, (l_ == ([] : List UInt8)) = l_.isEmpty from (fun l_ => by cases l_ <;> rfl)]; rfl) | (simp [errW_none, errW_some] <;> rfl) | (simp [*, errW_none, errW_some] <;> rfl), by repeat (first | (with_reducible first | exact HB.out | apply below_alloc | apply pw_below_drewN | apply below_drew1 | refine below_set ?_ GE155.out) | exact HB.out)⟩
  · rw [if_neg c2] at H
    have c2b0 : decide (0 ≤ a0_0) = false := decide_eq_false c2
    clear c2
    obtain rfl := Option.some.inj H
    go_enter Tryd.func26, Tryd.ntmps26
    go_wp2_with (first | ((with_reducible refine gate_dst (N := 1) rfl ?_); refine box_event ?hg (N := 1) ?hd (cs := #[.int .i64 a0_0, .int .i64 a0_1, .int .i64 a0_2, .string a0_3]) (t := 43) ?hr ?_; (case hd => rfl); (case hg => rfl); (case hr => first | (go_simp; done) | (go_simp; rfl)); intro gb155 hg w34 hbox hb; have n0_ := Aside0.mk (below_step (by repeat (first | (with_reducible first | exact HB.out | apply below_alloc | apply pw_below_drewN | apply below_drew1) | exact HB.out)) hb); have n1_ := Aside0.mk (hbox); have n2_ := Aside0.mk ((by rw [hg]; exact (below_size (by repeat (first | (with_reducible first | exact HB.out | apply below_alloc | apply pw_below_drewN | apply below_drew1) | exact HB.out))) : w.heap.size ≤ gb155)); have n3_ := Aside0.mk ((by rw [hg]; exact (below_size (by repeat (first | (with_reducible first | exact HB.out | apply below_alloc | apply pw_below_drewN | apply below_drew1) | exact HB.out))) : w.heap.size ≤ gb155)); clear HB; have HB := n0_; have BK155 := n1_; have GW155 := n2_; have GE155 := n3_; clear n0_ n1_ n2_ n3_; clear hb hbox hg; have hcz35_0 : w34.cell? ⟨gb155, 0, none⟩ = some (.int .i64 a0_0) := (blk_cell BK155.out 0).trans rfl; have hcz35_1 : w34.cell? ⟨gb155, 1, none⟩ = some (.int .i64 a0_1) := (blk_cell BK155.out 1).trans rfl; have hcz35_2 : w34.cell? ⟨gb155, 2, none⟩ = some (.int .i64 a0_2) := (blk_cell BK155.out 2).trans rfl; have hcz35_3 : w34.cell? ⟨gb155, 3, none⟩ = some (.string a0_3) := (blk_cell BK155.out 3).trans rfl; have hfz35_0 := blk_frozen BK155.out 0; have hfz35_1 := blk_frozen BK155.out 1; have hfz35_2 := blk_frozen BK155.out 2; have hfz35_3 := blk_frozen BK155.out 3))
    go_ret
    exact ⟨by first | rfl | (simp only [show ∀ l_ : List UInt8, (l_ != ([] : List UInt8)) = !l_.isEmpty from (fun l_ => by cases l_ <;> rfl), show ∀ l_ : List UInt8, (l_ == ([] : List UInt8)) = l_.isEmpty from (fun l_ => by cases l_ <;> rfl)]; rfl) | (simp [errW_none, errW_some] <;> rfl) | (simp [*, errW_none, errW_some] <;> rfl), by repeat (first | (with_reducible first | exact HB.out | apply below_alloc | apply pw_below_drewN | apply below_drew1 | refine below_set ?_ GE155.out) | exact HB.out)⟩

/-! ### names_less: function 27 -/
def names_less.f (a0_0 : Int) (a0_1 : Int) (a0_2 : Int) (a0_3 : ByteArray) (a1_0 : Int) (a1_1 : Int) (a1_2 : Int) (a1_3 : ByteArray) : Option (Bool) := if a0_0 = a1_0 then (if a0_1 = a1_1 then (some (decide (a0_2 < a1_2))) else (some (decide (a0_1 < a1_1)))) else (some (decide (a0_0 < a1_0)))
set_option maxHeartbeats 8000000 in
set_option maxRecDepth 100000 in
theorem names_less.calls (a0_0 : Int) (a0_1 : Int) (a0_2 : Int) (a0_3 : ByteArray) (a1_0 : Int) (a1_1 : Int) (a1_2 : Int) (a1_3 : ByteArray) (r : Bool) (w : World) (h : names_less.f a0_0 a0_1 a0_2 a0_3 a1_0 a1_1 a1_2 a1_3 = some r) :
    Calls Tryd.prog 27 #[.agg #[.int .i64 a0_0, .int .i64 a0_1, .int .i64 a0_2, .string a0_3], .agg #[.int .i64 a1_0, .int .i64 a1_1, .int .i64 a1_2, .string a1_3]] w fun e w' => e = .returned (.bool r) ∧ Below w.heap.size w w' := by
  have hu43 := Tryd.underlying43
  have HB := Aside0.mk (Below.refl w.heap.size w)
  have H : (if a0_0 = a1_0 then (if a0_1 = a1_1 then (some (decide (a0_2 < a1_2))) else (some (decide (a0_1 < a1_1)))) else (some (decide (a0_0 < a1_0)))) = some r := h
  clear h
  by_cases c3 : a0_0 = a1_0
  · rw [if_pos c3] at H
    have c3b0 : (a0_0 == a1_0) = true := beq_iff_eq.mpr c3
    have c3b1 : (a0_0 != a1_0) = false := bne_eq_false_iff_eq.mpr c3
    clear c3
    by_cases c4 : a0_1 = a1_1
    · rw [if_pos c4] at H
      have c4b0 : (a0_1 == a1_1) = true := beq_iff_eq.mpr c4
      have c4b1 : (a0_1 != a1_1) = false := bne_eq_false_iff_eq.mpr c4
      clear c4
      obtain rfl := Option.some.inj H
      go_enter Tryd.func27, Tryd.ntmps27
      go_wp2_with (first | ((with_reducible refine gate_dst (N := 2) rfl ?_); refine box_event ?hg (N := 2) ?hd (cs := #[.int .i64 a0_0, .int .i64 a0_1, .int .i64 a0_2, .string a0_3]) (t := 43) ?hr ?_; (case hd => rfl); (case hg => rfl); (case hr => first | (go_simp; done) | (go_simp; rfl)); intro gb158 hg w5 hbox hb; have n0_ := Aside0.mk (below_step (by repeat (first | (with_reducible first | exact HB.out | apply below_alloc | apply pw_below_drewN | apply below_drew1) | exact HB.out)) hb); have n1_ := Aside0.mk (hbox); have n2_ := Aside0.mk ((by rw [hg]; exact (below_size (by repeat (first | (with_reducible first | exact HB.out | apply below_alloc | apply pw_below_drewN | apply below_drew1) | exact HB.out))) : w.heap.size ≤ gb158)); have n3_ := Aside0.mk ((by rw [hg]; exact (below_size (by repeat (first | (with_reducible first | exact HB.out | apply below_alloc | apply pw_below_drewN | apply below_drew1) | exact HB.out))) : w.heap.size ≤ gb158)); clear HB; have HB := n0_; have BK158 := n1_; have GW158 := n2_; have GE158 := n3_; clear n0_ n1_ n2_ n3_; clear hb hbox hg) | ((with_reducible refine gate_dst (N := 3) rfl ?_); refine box_event ?hg (N := 3) ?hd (cs := #[.int .i64 a1_0, .int .i64 a1_1, .int .i64 a1_2, .string a1_3]) (t := 43) ?hr ?_; (case hd => rfl); (case hg => rfl); (case hr => first | (go_simp; done) | (go_simp; rfl)); intro gb159 hg w6 hbox hb; have n0_ := Aside0.mk (blk_below (g := gb158) (o := .cells #[.int .i64 a0_0, .int .i64 a0_1, .int .i64 a0_2, .string a0_3] 43 (0, 0)) (by (with_reducible repeat (first | refine blk_drewN ?_ _ | refine blk_drew ?_ | refine blk_alloc ?_ _)); exact BK158.out) hb); have n1_ := Aside0.mk (below_step (by repeat (first | (with_reducible first | exact HB.out | apply below_alloc | apply pw_below_drewN | apply below_drew1 | refine below_set ?_ GE158.out) | exact HB.out)) hb); have n2_ := Aside0.mk (hbox); have n3_ := Aside0.mk ((by rw [hg]; exact (below_size (by repeat (first | (with_reducible first | exact HB.out | apply below_alloc | apply pw_below_drewN | apply below_drew1 | refine below_set ?_ GE158.out) | exact HB.out))) : w.heap.size ≤ gb159)); have n4_ := Aside0.mk ((by rw [hg]; exact (below_size (by repeat (first | (with_reducible first | exact HB.out | apply below_alloc | apply pw_below_drewN | apply below_drew1 | refine below_set ?_ GE158.out) | exact HB.out))) : w.heap.size ≤ gb159)); have n5_ := Aside0.mk ((by rw [hg]; exact Nat.ne_of_lt (blk_lt (g := gb158) (o := .cells #[.int .i64 a0_0, .int .i64 a0_1, .int .i64 a0_2, .string a0_3] 43 (0, 0)) (by (with_reducible repeat (first | refine blk_drewN ?_ _ | refine blk_drew ?_ | refine blk_alloc ?_ _)); exact BK158.out)) : gb158 ≠ gb159)); have n6_ := Aside0.mk ((by rw [hg]; exact Nat.ne_of_gt (blk_lt (g := gb158) (o := .cells #[.int .i64 a0_0, .int .i64 a0_1, .int .i64 a0_2, .string a0_3] 43 (0, 0)) (by (with_reducible repeat (first | refine blk_drewN ?_ _ | refine blk_drew ?_ | refine blk_alloc ?_ _)); exact BK158.out)) : gb159 ≠ gb158)); clear BK158; clear HB; have BK158 := n0_; have HB := n1_; have BK159 := n2_; have GW159 := n3_; have GE159 := n4_; have NB158_159 := n5_; have NB159_158 := n6_; clear n0_ n1_ n2_ n3_ n4_ n5_ n6_; clear hb hbox hg; have hnb7 := NB158_159.out; have hnc7 := NB159_158.out; have hcz8_0 : w6.cell? ⟨gb158, 0, none⟩ = some (.int .i64 a0_0) := (blk_cell BK158.out 0).trans rfl; have hcz8_1 : w6.cell? ⟨gb158, 1, none⟩ = some (.int .i64 a0_1) := (blk_cell BK158.out 1).trans rfl; have hcz8_2 : w6.cell? ⟨gb158, 2, none⟩ = some (.int .i64 a0_2) := (blk_cell BK158.out 2).trans rfl; have hcz8_3 : w6.cell? ⟨gb158, 3, none⟩ = some (.string a0_3) := (blk_cell BK158.out 3).trans rfl; have hfz8_0 := blk_frozen BK158.out 0; have hfz8_1 := blk_frozen BK158.out 1; have hfz8_2 := blk_frozen BK158.out 2; have hfz8_3 := blk_frozen BK158.out 3; have hcz9_0 : w6.cell? ⟨gb159, 0, none⟩ = some (.int .i64 a1_0) := (blk_cell BK159.out 0).trans rfl; have hcz9_1 : w6.cell? ⟨gb159, 1, none⟩ = some (.int .i64 a1_1) := (blk_cell BK159.out 1).trans rfl; have hcz9_2 : w6.cell? ⟨gb159, 2, none⟩ = some (.int .i64 a1_2) := (blk_cell BK159.out 2).trans rfl; have hcz9_3 : w6.cell? ⟨gb159, 3, none⟩ = some (.string a1_3) := (blk_cell BK159.out 3).trans rfl; have hfz9_0 := blk_frozen BK159.out 0; have hfz9_1 := blk_frozen BK159.out 1; have hfz9_2 := blk_frozen BK159.out 2; have hfz9_3 := blk_frozen BK159.out 3))
      go_ret
      exact ⟨by first | rfl | (simp only [show ∀ l_ : List UInt8, (l_ != ([] : List UInt8)) = !l_.isEmpty from (fun l_ => by cases l_ <;> rfl), show ∀ l_ : List UInt8, (l_ == ([] : List UInt8)) = l_.isEmpty from (fun l_ => by cases l_ <;> rfl)]; rfl) | (simp [errW_none, errW_some] <;> rfl) | (simp [*, errW_none, errW_some] <;> rfl), by repeat (first | (with_reducible first | exact HB.out | apply below_alloc | apply pw_below_drewN | apply below_drew1 | refine below_set ?_ GE158.out | refine below_set ?_ GE159.out) | exact HB.out)⟩
    · rw [if_neg c4] at H
      have c4b0 : (a0_1 == a1_1) = false := beq_eq_false_iff_ne.mpr c4
      have c4b1 : (a0_1 != a1_1) = true := bne_iff_ne.mpr c4
      obtain rfl := Option.some.inj H
      go_enter Tryd.func27, Tryd.ntmps27
      go_wp2_with (first | ((with_reducible refine gate_dst (N := 2) rfl ?_); refine box_event ?hg (N := 2) ?hd (cs := #[.int .i64 a0_0, .int .i64 a0_1, .int .i64 a0_2, .string a0_3]) (t := 43) ?hr ?_; (case hd => rfl); (case hg => rfl); (case hr => first | (go_simp; done) | (go_simp; rfl)); intro gb158 hg w10 hbox hb; have n0_ := Aside0.mk (below_step (by repeat (first | (with_reducible first | exact HB.out | apply below_alloc | apply pw_below_drewN | apply below_drew1) | exact HB.out)) hb); have n1_ := Aside0.mk (hbox); have n2_ := Aside0.mk ((by rw [hg]; exact (below_size (by repeat (first | (with_reducible first | exact HB.out | apply below_alloc | apply pw_below_drewN | apply below_drew1) | exact HB.out))) : w.heap.size ≤ gb158)); have n3_ := Aside0.mk ((by rw [hg]; exact (below_size (by repeat (first | (with_reducible first | exact HB.out | apply below_alloc | apply pw_below_drewN | apply below_drew1) | exact HB.out))) : w.heap.size ≤ gb158)); clear HB; have HB := n0_; have BK158 := n1_; have GW158 := n2_; have GE158 := n3_; clear n0_ n1_ n2_ n3_; clear hb hbox hg) | ((with_reducible refine gate_dst (N := 3) rfl ?_); refine box_event ?hg (N := 3) ?hd (cs := #[.int .i64 a1_0, .int .i64 a1_1, .int .i64 a1_2, .string a1_3]) (t := 43) ?hr ?_; (case hd => rfl); (case hg => rfl); (case hr => first | (go_simp; done) | (go_simp; rfl)); intro gb159 hg w11 hbox hb; have n0_ := Aside0.mk (blk_below (g := gb158) (o := .cells #[.int .i64 a0_0, .int .i64 a0_1, .int .i64 a0_2, .string a0_3] 43 (0, 0)) (by (with_reducible repeat (first | refine blk_drewN ?_ _ | refine blk_drew ?_ | refine blk_alloc ?_ _)); exact BK158.out) hb); have n1_ := Aside0.mk (below_step (by repeat (first | (with_reducible first | exact HB.out | apply below_alloc | apply pw_below_drewN | apply below_drew1 | refine below_set ?_ GE158.out) | exact HB.out)) hb); have n2_ := Aside0.mk (hbox); have n3_ := Aside0.mk ((by rw [hg]; exact (below_size (by repeat (first | (with_reducible first | exact HB.out | apply below_alloc | apply pw_below_drewN | apply below_drew1 | refine below_set ?_ GE158.out) | exact HB.out))) : w.heap.size ≤ gb159)); have n4_ := Aside0.mk ((by rw [hg]; exact (below_size (by repeat (first | (with_reducible first | exact HB.out | apply below_alloc | apply pw_below_drewN | apply below_drew1 | refine below_set ?_ GE158.out) | exact HB.out))) : w.heap.size ≤ gb159)); have n5_ := Aside0.mk ((by rw [hg]; exact Nat.ne_of_lt (blk_lt (g := gb158) (o := .cells #[.int .i64 a0_0, .int .i64 a0_1, .int .i64 a0_2, .string a0_3] 43 (0, 0)) (by (with_reducible repeat (first | refine blk_drewN ?_ _ | refine blk_drew ?_ | refine blk_alloc ?_ _)); exact BK158.out)) : gb158 ≠ gb159)); have n6_ := Aside0.mk ((by rw [hg]; exact Nat.ne_of_gt (blk_lt (g := gb158) (o := .cells #[.int .i64 a0_0, .int .i64 a0_1, .int .i64 a0_2, .string a0_3] 43 (0, 0)) (by (with_reducible repeat (first | refine blk_drewN ?_ _ | refine blk_drew ?_ | refine blk_alloc ?_ _)); exact BK158.out)) : gb159 ≠ gb158)); clear BK158; clear HB; have BK158 := n0_; have HB := n1_; have BK159 := n2_; have GW159 := n3_; have GE159 := n4_; have NB158_159 := n5_; have NB159_158 := n6_; clear n0_ n1_ n2_ n3_ n4_ n5_ n6_; clear hb hbox hg; have hnb12 := NB158_159.out; have hnc12 := NB159_158.out; have hcz13_0 : w11.cell? ⟨gb158, 0, none⟩ = some (.int .i64 a0_0) := (blk_cell BK158.out 0).trans rfl; have hcz13_1 : w11.cell? ⟨gb158, 1, none⟩ = some (.int .i64 a0_1) := (blk_cell BK158.out 1).trans rfl; have hcz13_2 : w11.cell? ⟨gb158, 2, none⟩ = some (.int .i64 a0_2) := (blk_cell BK158.out 2).trans rfl; have hcz13_3 : w11.cell? ⟨gb158, 3, none⟩ = some (.string a0_3) := (blk_cell BK158.out 3).trans rfl; have hfz13_0 := blk_frozen BK158.out 0; have hfz13_1 := blk_frozen BK158.out 1; have hfz13_2 := blk_frozen BK158.out 2; have hfz13_3 := blk_frozen BK158.out 3; have hcz14_0 : w11.cell? ⟨gb159, 0, none⟩ = some (.int .i64 a1_0) := (blk_cell BK159.out 0).trans rfl; have hcz14_1 : w11.cell? ⟨gb159, 1, none⟩ = some (.int .i64 a1_1) := (blk_cell BK159.out 1).trans rfl; have hcz14_2 : w11.cell? ⟨gb159, 2, none⟩ = some (.int .i64 a1_2) := (blk_cell BK159.out 2).trans rfl; have hcz14_3 : w11.cell? ⟨gb159, 3, none⟩ = some (.string a1_3) := (blk_cell BK159.out 3).trans rfl; have hfz14_0 := blk_frozen BK159.out 0; have hfz14_1 := blk_frozen BK159.out 1; have hfz14_2 := blk_frozen BK159.out 2; have hfz14_3 := blk_frozen BK159.out 3))
      go_ret
      exact ⟨by first | rfl | (simp only [show ∀ l_ : List UInt8, (l_ != ([] : List UInt8)) = !l_.isEmpty from (fun l_ => by cases l_ <;> rfl), show ∀ l_ : List UInt8, (l_ == ([] : List UInt8)) = l_.isEmpty from (fun l_ => by cases l_ <;> rfl)]; rfl) | (simp [errW_none, errW_some] <;> rfl) | (simp [*, errW_none, errW_some] <;> rfl), by repeat (first | (with_reducible first | exact HB.out | apply below_alloc | apply pw_below_drewN | apply below_drew1 | refine below_set ?_ GE158.out | refine below_set ?_ GE159.out) | exact HB.out)⟩
  · rw [if_neg c3] at H
    have c3b0 : (a0_0 == a1_0) = false := beq_eq_false_iff_ne.mpr c3
    have c3b1 : (a0_0 != a1_0) = true := bne_iff_ne.mpr c3
    obtain rfl := Option.some.inj H
    go_enter Tryd.func27, Tryd.ntmps27
    go_wp2_with (first | ((with_reducible refine gate_dst (N := 2) rfl ?_); refine box_event ?hg (N := 2) ?hd (cs := #[.int .i64 a0_0, .int .i64 a0_1, .int .i64 a0_2, .string a0_3]) (t := 43) ?hr ?_; (case hd => rfl); (case hg => rfl); (case hr => first | (go_simp; done) | (go_simp; rfl)); intro gb158 hg w15 hbox hb; have n0_ := Aside0.mk (below_step (by repeat (first | (with_reducible first | exact HB.out | apply below_alloc | apply pw_below_drewN | apply below_drew1) | exact HB.out)) hb); have n1_ := Aside0.mk (hbox); have n2_ := Aside0.mk ((by rw [hg]; exact (below_size (by repeat (first | (with_reducible first | exact HB.out | apply below_alloc | apply pw_below_drewN | apply below_drew1) | exact HB.out))) : w.heap.size ≤ gb158)); have n3_ := Aside0.mk ((by rw [hg]; exact (below_size (by repeat (first | (with_reducible first | exact HB.out | apply below_alloc | apply pw_below_drewN | apply below_drew1) | exact HB.out))) : w.heap.size ≤ gb158)); clear HB; have HB := n0_; have BK158 := n1_; have GW158 := n2_; have GE158 := n3_; clear n0_ n1_ n2_ n3_; clear hb hbox hg) | ((with_reducible refine gate_dst (N := 3) rfl ?_); refine box_event ?hg (N := 3) ?hd (cs := #[.int .i64 a1_0, .int .i64 a1_1, .int .i64 a1_2, .string a1_3]) (t := 43) ?hr ?_; (case hd => rfl); (case hg => rfl); (case hr => first | (go_simp; done) | (go_simp; rfl)); intro gb159 hg w16 hbox hb; have n0_ := Aside0.mk (blk_below (g := gb158) (o := .cells #[.int .i64 a0_0, .int .i64 a0_1, .int .i64 a0_2, .string a0_3] 43 (0, 0)) (by (with_reducible repeat (first | refine blk_drewN ?_ _ | refine blk_drew ?_ | refine blk_alloc ?_ _)); exact BK158.out) hb); have n1_ := Aside0.mk (below_step (by repeat (first | (with_reducible first | exact HB.out | apply below_alloc | apply pw_below_drewN | apply below_drew1 | refine below_set ?_ GE158.out) | exact HB.out)) hb); have n2_ := Aside0.mk (hbox); have n3_ := Aside0.mk ((by rw [hg]; exact (below_size (by repeat (first | (with_reducible first | exact HB.out | apply below_alloc | apply pw_below_drewN | apply below_drew1 | refine below_set ?_ GE158.out) | exact HB.out))) : w.heap.size ≤ gb159)); have n4_ := Aside0.mk ((by rw [hg]; exact (below_size (by repeat (first | (with_reducible first | exact HB.out | apply below_alloc | apply pw_below_drewN | apply below_drew1 | refine below_set ?_ GE158.out) | exact HB.out))) : w.heap.size ≤ gb159)); have n5_ := Aside0.mk ((by rw [hg]; exact Nat.ne_of_lt (blk_lt (g := gb158) (o := .cells #[.int .i64 a0_0, .int .i64 a0_1, .int .i64 a0_2, .string a0_3] 43 (0, 0)) (by (with_reducible repeat (first | refine blk_drewN ?_ _ | refine blk_drew ?_ | refine blk_alloc ?_ _)); exact BK158.out)) : gb158 ≠ gb159)); have n6_ := Aside0.mk ((by rw [hg]; exact Nat.ne_of_gt (blk_lt (g := gb158) (o := .cells #[.int .i64 a0_0, .int .i64 a0_1, .int .i64 a0_2, .string a0_3] 43 (0, 0)) (by (with_reducible repeat (first | refine blk_drewN ?_ _ | refine blk_drew ?_ | refine blk_alloc ?_ _)); exact BK158.out)) : gb159 ≠ gb158)); clear BK158; clear HB; have BK158 := n0_; have HB := n1_; have BK159 := n2_; have GW159 := n3_; have GE159 := n4_; have NB158_159 := n5_; have NB159_158 := n6_; clear n0_ n1_ n2_ n3_ n4_ n5_ n6_; clear hb hbox hg; have hnb17 := NB158_159.out; have hnc17 := NB159_158.out; have hcz18_0 : w16.cell? ⟨gb158, 0, none⟩ = some (.int .i64 a0_0) := (blk_cell BK158.out 0).trans rfl; have hcz18_1 : w16.cell? ⟨gb158, 1, none⟩ = some (.int .i64 a0_1) := (blk_cell BK158.out 1).trans rfl; have hcz18_2 : w16.cell? ⟨gb158, 2, none⟩ = some (.int .i64 a0_2) := (blk_cell BK158.out 2).trans rfl; have hcz18_3 : w16.cell? ⟨gb158, 3, none⟩ = some (.string a0_3) := (blk_cell BK158.out 3).trans rfl; have hfz18_0 := blk_frozen BK158.out 0; have hfz18_1 := blk_frozen BK158.out 1; have hfz18_2 := blk_frozen BK158.out 2; have hfz18_3 := blk_frozen BK158.out 3; have hcz19_0 : w16.cell? ⟨gb159, 0, none⟩ = some (.int .i64 a1_0) := (blk_cell BK159.out 0).trans rfl; have hcz19_1 : w16.cell? ⟨gb159, 1, none⟩ = some (.int .i64 a1_1) := (blk_cell BK159.out 1).trans rfl; have hcz19_2 : w16.cell? ⟨gb159, 2, none⟩ = some (.int .i64 a1_2) := (blk_cell BK159.out 2).trans rfl; have hcz19_3 : w16.cell? ⟨gb159, 3, none⟩ = some (.string a1_3) := (blk_cell BK159.out 3).trans rfl; have hfz19_0 := blk_frozen BK159.out 0; have hfz19_1 := blk_frozen BK159.out 1; have hfz19_2 := blk_frozen BK159.out 2; have hfz19_3 := blk_frozen BK159.out 3))
    go_ret
    exact ⟨by first | rfl | (simp only [show ∀ l_ : List UInt8, (l_ != ([] : List UInt8)) = !l_.isEmpty from (fun l_ => by cases l_ <;> rfl), show ∀ l_ : List UInt8, (l_ == ([] : List UInt8)) = l_.isEmpty from (fun l_ => by cases l_ <;> rfl)]; rfl) | (simp [errW_none, errW_some] <;> rfl) | (simp [*, errW_none, errW_some] <;> rfl), by repeat (first | (with_reducible first | exact HB.out | apply below_alloc | apply pw_below_drewN | apply below_drew1 | refine below_set ?_ GE158.out | refine below_set ?_ GE159.out) | exact HB.out)⟩

end Go.Proofs.YtkhdejefolegpaaDoor.Q
