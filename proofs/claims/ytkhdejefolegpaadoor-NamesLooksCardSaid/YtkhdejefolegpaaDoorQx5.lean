-- Printed by px.py: a changed copy of the kit's printer, with contracts of this session's own in it. Not trusted: Lean checks it.
import Derived.Test.YtkhdejefolegpaaDoorQx0
import Derived.Test.YtkhdejefolegpaaDoorQx1
import Derived.Test.YtkhdejefolegpaaDoorQx4
namespace Go.Proofs.YtkhdejefolegpaaDoor.Q
open Go.RowKit Go.Proofs.YtkhdejefolegpaaDoorW.PrintWords Go.Proofs.YtkhdejefolegpaaDoorW.PrintLast Go.Proofs.YtkhdejefolegpaaDoorW.PrintMore
attribute [local go_sem] max2_int min2_int max_two min_two max_three min_three max_four min_four   -- for this text's walks alone
set_option linter.unusedVariables false
set_option linter.unusedSimpArgs false

/-! ### names_Interpret: function 22 -/
mutual
def names_Interpret.j0 : Nat → List (S43) → Int → ByteArray → ByteArray → Bool → ByteArray → Int → Int → ByteArray → Option (ByteArray)
  | 0, _, _, _, _, _, _, _, _, _ => none
  | k + 1, x0, x1, x7, x14, x15, x166000, x166001, x166002, x166003 => if x15 = true then (if x166002 = 4294967295 then (some (⟨#[117, 110, 115, 101, 116]⟩ : ByteArray)) else ((names_Name.f x0 1 x166002 x1).bind fun bt167 => (if bt167.1.toList = ([] : List UInt8) then ((names_Plain.f x166000 x166001 x166002 x166003).bind fun t169 => (some t169)) else (some bt167.1)))) else (if x14.toList = ([103, 105, 100] : List UInt8) then (names_Interpret.j1 k x0 x1 x7 x14 (x14.toList == ([103, 105, 100] : List UInt8)) x166000 x166001 x166002 x166003) else (if x14.toList = ([101, 103, 105, 100] : List UInt8) then (names_Interpret.j1 k x0 x1 x7 x14 (x14.toList == ([101, 103, 105, 100] : List UInt8)) x166000 x166001 x166002 x166003) else (names_Interpret.j1 k x0 x1 x7 x14 (x14.toList == ([111, 103, 105, 100] : List UInt8)) x166000 x166001 x166002 x166003)))
def names_Interpret.j1 : Nat → List (S43) → Int → ByteArray → ByteArray → Bool → ByteArray → Int → Int → ByteArray → Option (ByteArray)
  | 0, _, _, _, _, _, _, _, _, _ => none
  | k + 1, x0, x1, x7, x14, x31, x166000, x166001, x166002, x166003 => if x31 = true then ((names_Name.f x0 2 x166002 x1).bind fun bt170 => (if bt170.1.toList = ([] : List UInt8) then ((names_Plain.f x166000 x166001 x166002 x166003).bind fun t172 => (some t172)) else (some bt170.1))) else (if x14.toList = ([115, 101, 115] : List UInt8) then (if x166002 = 4294967295 then (some (⟨#[117, 110, 115, 101, 116]⟩ : ByteArray)) else (if x7.toList = ([] : List UInt8) then ((names_Plain.f x166000 x166001 x166002 x166003).bind fun t173 => (some t173)) else (some x7))) else (if x14.toList = ([101, 120, 105, 116] : List UInt8) then (if x166002 < 0 then (names_Interpret.j2 k x7 (decide (x166002 > (-9223372036854775808))) x166000 x166001 x166002 x166003) else (names_Interpret.j2 k x7 false x166000 x166001 x166002 x166003)) else (if x14.toList = ([109, 111, 100, 101] : List UInt8) then ((access_Format.f x166002).bind fun t178 => (if t178.toList = ([] : List UInt8) then ((names_Plain.f x166000 x166001 x166002 x166003).bind fun t179 => (some t179)) else (some t178))) else (if x14.toList = ([112, 101, 114, 109] : List UInt8) then ((names_perms.f x166002).bind fun t180 => (if t180.toList = ([] : List UInt8) then ((names_Plain.f x166000 x166001 x166002 x166003).bind fun t181 => (some t181)) else (some t180))) else (if x7.toList = ([] : List UInt8) then ((names_Plain.f x166000 x166001 x166002 x166003).bind fun t182 => (some t182)) else (some x7))))))
def names_Interpret.j2 : Nat → ByteArray → Bool → ByteArray → Int → Int → ByteArray → Option (ByteArray)
  | 0, _, _, _, _, _, _ => none
  | k + 1, x7, x57, x166000, x166001, x166002, x166003 => if x57 = true then ((names_ErrorName.f (wrap64 (-x166002))).bind fun t174 => (if t174.toList = ([] : List UInt8) then ((names_Plain.f x166000 x166001 x166002 x166003).bind fun t175 => (some t175)) else (if 1 + t174.size ≤ 9223372036854775807 then (if ((⟨#[45]⟩ : ByteArray) ++ t174).toList = ([] : List UInt8) then ((names_Plain.f x166000 x166001 x166002 x166003).bind fun t176 => (some t176)) else (some ((⟨#[45]⟩ : ByteArray) ++ t174))) else (none)))) else (if x7.toList = ([] : List UInt8) then ((names_Plain.f x166000 x166001 x166002 x166003).bind fun t177 => (some t177)) else (some x7))
end
def names_Interpret.f (k : Nat) (l0 : List (S43)) (a1 : Int) (a2_0 : ByteArray) (a2_1 : Int) (a2_2 : Int) (a2_3 : ByteArray) : Option (ByteArray) := if a2_1 = 1 then (if a2_0.toList = ([117, 105, 100] : List UInt8) then (names_Interpret.j0 k l0 a1 (⟨#[]⟩ : ByteArray) a2_0 (a2_0.toList == ([117, 105, 100] : List UInt8)) a2_0 a2_1 a2_2 a2_3) else (if a2_0.toList = ([101, 117, 105, 100] : List UInt8) then (names_Interpret.j0 k l0 a1 (⟨#[]⟩ : ByteArray) a2_0 (a2_0.toList == ([101, 117, 105, 100] : List UInt8)) a2_0 a2_1 a2_2 a2_3) else (if a2_0.toList = ([97, 117, 105, 100] : List UInt8) then (names_Interpret.j0 k l0 a1 (⟨#[]⟩ : ByteArray) a2_0 (a2_0.toList == ([97, 117, 105, 100] : List UInt8)) a2_0 a2_1 a2_2 a2_3) else (names_Interpret.j0 k l0 a1 (⟨#[]⟩ : ByteArray) a2_0 (a2_0.toList == ([111, 117, 105, 100] : List UInt8)) a2_0 a2_1 a2_2 a2_3)))) else ((names_Plain.f a2_0 a2_1 a2_2 a2_3).bind fun t166 => (some t166))
theorem names_Interpret.mono_l : ∀ k, (∀ y0 y1 y2 y3 y4 y5 y6 y7 y8, LeO (names_Interpret.j0 k y0 y1 y2 y3 y4 y5 y6 y7 y8) (names_Interpret.j0 (k + 1) y0 y1 y2 y3 y4 y5 y6 y7 y8)) ∧ (∀ y0 y1 y2 y3 y4 y5 y6 y7 y8, LeO (names_Interpret.j1 k y0 y1 y2 y3 y4 y5 y6 y7 y8) (names_Interpret.j1 (k + 1) y0 y1 y2 y3 y4 y5 y6 y7 y8)) ∧ (∀ y0 y1 y2 y3 y4 y5, LeO (names_Interpret.j2 k y0 y1 y2 y3 y4 y5) (names_Interpret.j2 (k + 1) y0 y1 y2 y3 y4 y5))
  | 0 => ⟨fun _ _ _ _ _ _ _ _ _ r h => by simp [names_Interpret.j0] at h, fun _ _ _ _ _ _ _ _ _ r h => by simp [names_Interpret.j1] at h, fun _ _ _ _ _ _ r h => by simp [names_Interpret.j2] at h⟩
  | k + 1 => by
    obtain ⟨ih0, ih1, ih2⟩ := names_Interpret.mono_l k
    refine ⟨?_, ?_, ?_⟩
    · intro y0 y1 y2 y3 y4 y5 y6 y7 y8
      unfold names_Interpret.j0
      repeat' first
      | (with_reducible exact ih0 _ _ _ _ _ _ _ _ _)
      | (with_reducible exact ih1 _ _ _ _ _ _ _ _ _)
      | (with_reducible exact ih2 _ _ _ _ _ _)
      | (with_reducible exact LeO.refl _)
      | (with_reducible exact LeO.none _)
      | (with_reducible refine LeO.ite ?_ ?_)
      | (with_reducible refine LeO.bind ?_ (fun _ => ?_))
      | exact ih0 _ _ _ _ _ _ _ _ _
      | exact ih1 _ _ _ _ _ _ _ _ _
      | exact ih2 _ _ _ _ _ _
      | exact LeO.none _
      | refine LeO.ite ?_ ?_
      | refine LeO.bind ?_ (fun _ => ?_)
    · intro y0 y1 y2 y3 y4 y5 y6 y7 y8
      unfold names_Interpret.j1
      repeat' first
      | (with_reducible exact ih0 _ _ _ _ _ _ _ _ _)
      | (with_reducible exact ih1 _ _ _ _ _ _ _ _ _)
      | (with_reducible exact ih2 _ _ _ _ _ _)
      | (with_reducible exact LeO.refl _)
      | (with_reducible exact LeO.none _)
      | (with_reducible refine LeO.ite ?_ ?_)
      | (with_reducible refine LeO.bind ?_ (fun _ => ?_))
      | exact ih0 _ _ _ _ _ _ _ _ _
      | exact ih1 _ _ _ _ _ _ _ _ _
      | exact ih2 _ _ _ _ _ _
      | exact LeO.none _
      | refine LeO.ite ?_ ?_
      | refine LeO.bind ?_ (fun _ => ?_)
    · intro y0 y1 y2 y3 y4 y5
      unfold names_Interpret.j2
      repeat' first
      | (with_reducible exact ih0 _ _ _ _ _ _ _ _ _)
      | (with_reducible exact ih1 _ _ _ _ _ _ _ _ _)
      | (with_reducible exact ih2 _ _ _ _ _ _)
      | (with_reducible exact LeO.refl _)
      | (with_reducible exact LeO.none _)
      | (with_reducible refine LeO.ite ?_ ?_)
      | (with_reducible refine LeO.bind ?_ (fun _ => ?_))
      | exact ih0 _ _ _ _ _ _ _ _ _
      | exact ih1 _ _ _ _ _ _ _ _ _
      | exact ih2 _ _ _ _ _ _
      | exact LeO.none _
      | refine LeO.ite ?_ ?_
      | refine LeO.bind ?_ (fun _ => ?_)
theorem names_Interpret.mono : ∀ a0 a1 a2 a3 a4 a5 k, LeO (names_Interpret.f k a0 a1 a2 a3 a4 a5) (names_Interpret.f (k + 1) a0 a1 a2 a3 a4 a5) := by
  intro a0 a1 a2 a3 a4 a5 k
  obtain ⟨ih0, ih1, ih2⟩ := names_Interpret.mono_l k
  unfold names_Interpret.f
  repeat' first
      | (with_reducible exact ih0 _ _ _ _ _ _ _ _ _)
      | (with_reducible exact ih1 _ _ _ _ _ _ _ _ _)
      | (with_reducible exact ih2 _ _ _ _ _ _)
      | (with_reducible exact LeO.refl _)
      | (with_reducible exact LeO.none _)
      | (with_reducible refine LeO.ite ?_ ?_)
      | (with_reducible refine LeO.bind ?_ (fun _ => ?_))
      | exact ih0 _ _ _ _ _ _ _ _ _
      | exact ih1 _ _ _ _ _ _ _ _ _
      | exact ih2 _ _ _ _ _ _
      | exact LeO.none _
      | refine LeO.ite ?_ ?_
      | refine LeO.bind ?_ (fun _ => ?_)
set_option maxHeartbeats 8000000 in
set_option maxRecDepth 100000 in
theorem names_Interpret.calls (k : Nat) (A0 : Option Addr) (c0 : Nat) (l0 : List (S43)) (a1 : Int) (a2_0 : ByteArray) (a2_1 : Int) (a2_2 : Int) (a2_3 : ByteArray) (r : ByteArray) (w : World) (hr0 : Kd.C k43 w A0 l0.length l0) (hc0 : l0.length ≤ c0) (h : names_Interpret.f k l0 a1 a2_0 a2_1 a2_2 a2_3 = some r) :
    Calls Tryd.prog 22 #[.slice A0 l0.length c0, .int .i64 a1, .agg #[.string a2_0, .int .i64 a2_1, .int .i64 a2_2, .string a2_3]] w fun e w' => e = .returned (.string r) ∧ Below w.heap.size w w' := by
  have hu51 := Tryd.underlying51
  have HR0 := Aside0.mk hr0
  have HC0 := Aside0.mk hc0
  clear hr0 hc0
  have HB := Aside0.mk (Below.refl w.heap.size w)
  have H : (if a2_1 = 1 then (if a2_0.toList = ([117, 105, 100] : List UInt8) then (names_Interpret.j0 k l0 a1 (⟨#[]⟩ : ByteArray) a2_0 (a2_0.toList == ([117, 105, 100] : List UInt8)) a2_0 a2_1 a2_2 a2_3) else (if a2_0.toList = ([101, 117, 105, 100] : List UInt8) then (names_Interpret.j0 k l0 a1 (⟨#[]⟩ : ByteArray) a2_0 (a2_0.toList == ([101, 117, 105, 100] : List UInt8)) a2_0 a2_1 a2_2 a2_3) else (if a2_0.toList = ([97, 117, 105, 100] : List UInt8) then (names_Interpret.j0 k l0 a1 (⟨#[]⟩ : ByteArray) a2_0 (a2_0.toList == ([97, 117, 105, 100] : List UInt8)) a2_0 a2_1 a2_2 a2_3) else (names_Interpret.j0 k l0 a1 (⟨#[]⟩ : ByteArray) a2_0 (a2_0.toList == ([111, 117, 105, 100] : List UInt8)) a2_0 a2_1 a2_2 a2_3)))) else ((names_Plain.f a2_0 a2_1 a2_2 a2_3).bind fun t166 => (some t166))) = some r := h
  clear h
  by_cases c4 : a2_1 = 1
  · rw [if_pos c4] at H
    have c4b0 : (a2_1 == 1) = true := beq_iff_eq.mpr c4
    have c4b1 : (a2_1 != 1) = false := bne_eq_false_iff_eq.mpr c4
    clear c4
    have HC5 := Aside0.mk H
    clear H
    go_enter Tryd.func22, Tryd.ntmps22
    go_upto_if 15 with (first | ((with_reducible refine gate_dst (N := 5) rfl ?_); refine box_event ?hg (N := 5) ?hd (cs := #[.string a2_0, .int .i64 a2_1, .int .i64 a2_2, .string a2_3]) (t := 51) ?hr ?_; (case hd => rfl); (case hg => rfl); (case hr => first | (go_simp; done) | (go_simp; rfl)); intro gb165 hg w6 hbox hb; have n0_ := Aside0.mk (below_step (by repeat (first | (with_reducible first | exact HB.out | apply below_alloc | apply pw_below_drewN | apply below_drew1) | exact HB.out)) hb); have n1_ := Aside0.mk (hbox); have n2_ := Aside0.mk ((by rw [hg]; exact (below_size (by repeat (first | (with_reducible first | exact HB.out | apply below_alloc | apply pw_below_drewN | apply below_drew1) | exact HB.out))) : w.heap.size ≤ gb165)); have n3_ := Aside0.mk ((by rw [hg]; exact (below_size (by repeat (first | (with_reducible first | exact HB.out | apply below_alloc | apply pw_below_drewN | apply below_drew1) | exact HB.out))) : w.heap.size ≤ gb165)); clear HB; have HB := n0_; have BK165 := n1_; have GW165 := n2_; have GE165 := n3_; clear n0_ n1_ n2_ n3_; clear hb hbox hg; have hcz7_0 : w6.cell? ⟨gb165, 0, none⟩ = some (.string a2_0) := (blk_cell BK165.out 0).trans rfl; have hcz7_1 : w6.cell? ⟨gb165, 1, none⟩ = some (.int .i64 a2_1) := (blk_cell BK165.out 1).trans rfl; have hcz7_2 : w6.cell? ⟨gb165, 2, none⟩ = some (.int .i64 a2_2) := (blk_cell BK165.out 2).trans rfl; have hcz7_3 : w6.cell? ⟨gb165, 3, none⟩ = some (.string a2_3) := (blk_cell BK165.out 3).trans rfl; have hfz7_0 := blk_frozen BK165.out 0; have hfz7_1 := blk_frozen BK165.out 1; have hfz7_2 := blk_frozen BK165.out 2; have hfz7_3 := blk_frozen BK165.out 3))
    (try simp only [Act.put, List.setIfInBounds_toArray, List.set_cons_zero, List.set_cons_succ])
    go_cut [15] (fun v15 wc => ∃ (kq : Nat) (x15_4 : Bool), v15 = .bool x15_4 ∧ Aside0 (names_Interpret.j0 kq l0 a1 (⟨#[]⟩ : ByteArray) a2_0 x15_4 a2_0 a2_1 a2_2 a2_3 = some r) ∧ Aside0 (kq ≤ k) ∧ Aside0 (wc.heap[gb165]? = some (.cells #[.string a2_0, .int .i64 a2_1, .int .i64 a2_2, .string a2_3] 51 (0, 0))) ∧ Aside0 (Below w.heap.size w wc))
    case first =>
      have H := HC5.out
      clear HC5
      by_cases c8 : a2_0.toList = ([117, 105, 100] : List UInt8)
      · rw [if_pos c8] at H
        have c8b0 : (a2_0.toList == ([117, 105, 100] : List UInt8)) = true := beq_iff_eq.mpr c8
        have c8b1 : (a2_0.toList != ([117, 105, 100] : List UInt8)) = false := bne_eq_false_iff_eq.mpr c8
        clear c8
        (first | rw [c8b0] | (simp only [i64_w, i32_w]; rw [c8b0]) | skip)
        have H' := Aside0.mk H
        clear H
        go_wp2
        go_meet
        case rel => exact ⟨_, ((a2_0.toList == ([117, 105, 100] : List UInt8))), (by first | rfl | (simp; done) | (simp [*]; done)), H', ⟨by first | omega | exact Nat.le_refl _⟩, ⟨by (with_reducible repeat (first | refine blk_drewN ?_ _ | refine blk_drew ?_ | refine blk_alloc ?_ _)); exact BK165.out⟩, ⟨by repeat (first | (with_reducible first | exact HB.out | apply below_alloc | apply pw_below_drewN | apply below_drew1 | refine below_set ?_ GE165.out) | exact HB.out)⟩⟩
      · rw [if_neg c8] at H
        have c8b0 : (a2_0.toList == ([117, 105, 100] : List UInt8)) = false := beq_eq_false_iff_ne.mpr c8
        have c8b1 : (a2_0.toList != ([117, 105, 100] : List UInt8)) = true := bne_iff_ne.mpr c8
        (first | rw [c8b0] | (simp only [i64_w, i32_w]; rw [c8b0]) | skip)
        by_cases c9 : a2_0.toList = ([101, 117, 105, 100] : List UInt8)
        · rw [if_pos c9] at H
          have c9b0 : (a2_0.toList == ([101, 117, 105, 100] : List UInt8)) = true := beq_iff_eq.mpr c9
          have c9b1 : (a2_0.toList != ([101, 117, 105, 100] : List UInt8)) = false := bne_eq_false_iff_eq.mpr c9
          clear c9
          have H' := Aside0.mk H
          clear H
          go_wp2
          go_meet
          case rel => exact ⟨_, ((a2_0.toList == ([101, 117, 105, 100] : List UInt8))), (by first | rfl | (simp; done) | (simp [*]; done)), H', ⟨by first | omega | exact Nat.le_refl _⟩, ⟨by (with_reducible repeat (first | refine blk_drewN ?_ _ | refine blk_drew ?_ | refine blk_alloc ?_ _)); exact BK165.out⟩, ⟨by repeat (first | (with_reducible first | exact HB.out | apply below_alloc | apply pw_below_drewN | apply below_drew1 | refine below_set ?_ GE165.out) | exact HB.out)⟩⟩
        · rw [if_neg c9] at H
          have c9b0 : (a2_0.toList == ([101, 117, 105, 100] : List UInt8)) = false := beq_eq_false_iff_ne.mpr c9
          have c9b1 : (a2_0.toList != ([101, 117, 105, 100] : List UInt8)) = true := bne_iff_ne.mpr c9
          by_cases c10 : a2_0.toList = ([97, 117, 105, 100] : List UInt8)
          · rw [if_pos c10] at H
            have c10b0 : (a2_0.toList == ([97, 117, 105, 100] : List UInt8)) = true := beq_iff_eq.mpr c10
            have c10b1 : (a2_0.toList != ([97, 117, 105, 100] : List UInt8)) = false := bne_eq_false_iff_eq.mpr c10
            clear c10
            have H' := Aside0.mk H
            clear H
            go_wp2
            go_meet
            case rel => exact ⟨_, ((a2_0.toList == ([97, 117, 105, 100] : List UInt8))), (by first | rfl | (simp; done) | (simp [*]; done)), H', ⟨by first | omega | exact Nat.le_refl _⟩, ⟨by (with_reducible repeat (first | refine blk_drewN ?_ _ | refine blk_drew ?_ | refine blk_alloc ?_ _)); exact BK165.out⟩, ⟨by repeat (first | (with_reducible first | exact HB.out | apply below_alloc | apply pw_below_drewN | apply below_drew1 | refine below_set ?_ GE165.out) | exact HB.out)⟩⟩
          · rw [if_neg c10] at H
            have c10b0 : (a2_0.toList == ([97, 117, 105, 100] : List UInt8)) = false := beq_eq_false_iff_ne.mpr c10
            have c10b1 : (a2_0.toList != ([97, 117, 105, 100] : List UInt8)) = true := bne_iff_ne.mpr c10
            have H' := Aside0.mk H
            clear H
            go_wp2
            go_meet
            case rel => exact ⟨_, ((a2_0.toList == ([111, 117, 105, 100] : List UInt8))), (by first | rfl | (simp; done) | (simp [*]; done)), H', ⟨by first | omega | exact Nat.le_refl _⟩, ⟨by (with_reducible repeat (first | refine blk_drewN ?_ _ | refine blk_drew ?_ | refine blk_alloc ?_ _)); exact BK165.out⟩, ⟨by repeat (first | (with_reducible first | exact HB.out | apply below_alloc | apply pw_below_drewN | apply below_drew1 | refine below_set ?_ GE165.out) | exact HB.out)⟩⟩
    case rest =>
      clear HC5
      try clear c1
      try clear c2
      try clear p2
      try clear c4
      try clear c4b0
      try clear c4b1
      try clear c8
      try clear c8b0
      try clear c8b1
      try clear c9
      try clear c9b0
      try clear c9b1
      try clear c10
      try clear c10b0
      try clear c10b1
      try clear hcz7_0
      try clear hcz7_1
      try clear hcz7_2
      try clear hcz7_3
      try clear hfz7_0
      try clear hfz7_1
      try clear hfz7_2
      try clear hfz7_3
      obtain ⟨kq, x15_4, rfl, HA, HJ4, BK165, HB⟩ := hcut
      cases kq with
      | zero => exact absurd HA.out (by simp [names_Interpret.j0])
      | succ kj4 =>
        have H := HA.out
        clear HA
        simp only [names_Interpret.j0] at H
        by_cases c11 : x15_4 = true
        · subst c11
          have H1 : (if a2_2 = 4294967295 then (some (⟨#[117, 110, 115, 101, 116]⟩ : ByteArray)) else ((names_Name.f l0 1 a2_2 a1).bind fun bt167 => (if bt167.1.toList = ([] : List UInt8) then ((names_Plain.f a2_0 a2_1 a2_2 a2_3).bind fun t169 => (some t169)) else (some bt167.1)))) = some r := by rw [if_pos rfl] at H; exact H
          clear H
          have H := H1
          clear H1
          by_cases c12 : a2_2 = 4294967295
          · rw [if_pos c12] at H
            have c12b0 : (a2_2 == 4294967295) = true := beq_iff_eq.mpr c12
            have c12b1 : (a2_2 != 4294967295) = false := bne_eq_false_iff_eq.mpr c12
            clear c12
            obtain rfl := Option.some.inj H
            have hcz13_0 : wc.cell? ⟨gb165, 0, none⟩ = some (.string a2_0) := (blk_cell BK165.out 0).trans rfl
            have hcz13_1 : wc.cell? ⟨gb165, 1, none⟩ = some (.int .i64 a2_1) := (blk_cell BK165.out 1).trans rfl
            have hcz13_2 : wc.cell? ⟨gb165, 2, none⟩ = some (.int .i64 a2_2) := (blk_cell BK165.out 2).trans rfl
            have hcz13_3 : wc.cell? ⟨gb165, 3, none⟩ = some (.string a2_3) := (blk_cell BK165.out 3).trans rfl
            have hfz13_0 := blk_frozen BK165.out 0
            have hfz13_1 := blk_frozen BK165.out 1
            have hfz13_2 := blk_frozen BK165.out 2
            have hfz13_3 := blk_frozen BK165.out 3
            go_wp2
            go_ret
            exact ⟨by first | rfl | (simp only [show ∀ l_ : List UInt8, (l_ != ([] : List UInt8)) = !l_.isEmpty from (fun l_ => by cases l_ <;> rfl), show ∀ l_ : List UInt8, (l_ == ([] : List UInt8)) = l_.isEmpty from (fun l_ => by cases l_ <;> rfl)]; rfl) | (simp [errW_none, errW_some] <;> rfl) | (simp [*, errW_none, errW_some] <;> rfl), by repeat (first | (with_reducible first | exact HB.out | apply below_alloc | apply pw_below_drewN | apply below_drew1 | refine below_set ?_ GE165.out) | exact HB.out)⟩
          · rw [if_neg c12] at H
            have c12b0 : (a2_2 == 4294967295) = false := beq_eq_false_iff_ne.mpr c12
            have c12b1 : (a2_2 != 4294967295) = true := bne_iff_ne.mpr c12
            replace H := Option.bind_eq_some_iff.mp H
            obtain ⟨⟨t167, t168⟩, A140, H⟩ := H
            replace H : (if t167.toList = ([] : List UInt8) then ((names_Plain.f a2_0 a2_1 a2_2 a2_3).bind fun t169 => (some t169)) else (some t167)) = some r := H
            have A14 := Aside0.mk A140
            clear A140
            by_cases c15 : t167.toList = ([] : List UInt8)
            · rw [if_pos c15] at H
              have c15b0 : (t167.toList == ([] : List UInt8)) = true := beq_iff_eq.mpr c15
              have c15b1 : (t167.toList != ([] : List UInt8)) = false := bne_eq_false_iff_eq.mpr c15
              clear c15
              replace H := Option.bind_eq_some_iff.mp H
              obtain ⟨t169, A160, H⟩ := H
              replace H : (some t169) = some r := H
              have A16 := Aside0.mk A160
              clear A160
              obtain rfl := Option.some.inj H
              have hcz17_0 : wc.cell? ⟨gb165, 0, none⟩ = some (.string a2_0) := (blk_cell BK165.out 0).trans rfl
              have hcz17_1 : wc.cell? ⟨gb165, 1, none⟩ = some (.int .i64 a2_1) := (blk_cell BK165.out 1).trans rfl
              have hcz17_2 : wc.cell? ⟨gb165, 2, none⟩ = some (.int .i64 a2_2) := (blk_cell BK165.out 2).trans rfl
              have hcz17_3 : wc.cell? ⟨gb165, 3, none⟩ = some (.string a2_3) := (blk_cell BK165.out 3).trans rfl
              have hfz17_0 := blk_frozen BK165.out 0
              have hfz17_1 := blk_frozen BK165.out 1
              have hfz17_2 := blk_frozen BK165.out 2
              have hfz17_3 := blk_frozen BK165.out 3
              go_wp2_with (first | ((with_reducible refine gate_callee (f := 8) rfl ?_); refine goesL_ (some 28) rfl rfl Tryd.func8 (by kernel_rfl) rfl #[.slice A0 l0.length c0, .int .i64 1, .int .i64 a2_2, .int .i64 a1] rfl (by (try simp only [List.map_toArray, List.map_cons, List.map_nil]); first | done | rfl | (simp only [List.length_drop, List.length_take]; rfl)) ?_; (with_reducible refine (names_Name.calls _ _ l0 1 a2_2 a1 t167 t168 _ ?side1 ?side2 A14.out).mono ?_); (case side1 => repeat (first | exact (Kd.C_below HR0.out HB.out) | (with_reducible refine Kd.C_alloc ?_ _) | (with_reducible refine Kd.C_drewN ?_ _) | (with_reducible refine Kd.C_drew ?_))); (case side2 => exact HC0.out); rintro e w18 ⟨rfl, hb⟩; refine ⟨_, rfl, ?_⟩; have n0_ := Aside0.mk (blk_below (g := gb165) (o := .cells #[.string a2_0, .int .i64 a2_1, .int .i64 a2_2, .string a2_3] 51 (0, 0)) (by (with_reducible repeat (first | refine blk_drewN ?_ _ | refine blk_drew ?_ | refine blk_alloc ?_ _)); exact BK165.out) hb); have n1_ := Aside0.mk (below_step (by repeat (first | (with_reducible first | exact HB.out | apply below_alloc | apply pw_below_drewN | apply below_drew1 | refine below_set ?_ GE165.out) | exact HB.out)) hb); clear BK165; clear HB; have BK165 := n0_; have HB := n1_; clear n0_ n1_; (try clear hb); (try clear hb2); (try clear hk); (try clear hi); have hcz19_0 : w18.cell? ⟨gb165, 0, none⟩ = some (.string a2_0) := (blk_cell BK165.out 0).trans rfl; have hcz19_1 : w18.cell? ⟨gb165, 1, none⟩ = some (.int .i64 a2_1) := (blk_cell BK165.out 1).trans rfl; have hcz19_2 : w18.cell? ⟨gb165, 2, none⟩ = some (.int .i64 a2_2) := (blk_cell BK165.out 2).trans rfl; have hcz19_3 : w18.cell? ⟨gb165, 3, none⟩ = some (.string a2_3) := (blk_cell BK165.out 3).trans rfl; have hfz19_0 := blk_frozen BK165.out 0; have hfz19_1 := blk_frozen BK165.out 1; have hfz19_2 := blk_frozen BK165.out 2; have hfz19_3 := blk_frozen BK165.out 3) | ((with_reducible refine gate_callee (f := 28) rfl ?_); refine goesL_ (some 79) rfl rfl Tryd.func28 (by kernel_rfl) rfl #[.agg #[.string a2_0, .int .i64 a2_1, .int .i64 a2_2, .string a2_3]] rfl (by (try simp only [List.map_toArray, List.map_cons, List.map_nil]); first | done | rfl | (simp only [List.length_drop, List.length_take]; rfl)) ?_; (with_reducible refine (names_Plain.calls a2_0 a2_1 a2_2 a2_3 t169 _ A16.out).mono ?_); rintro e w20 ⟨rfl, hb⟩; refine ⟨_, rfl, ?_⟩; have n0_ := Aside0.mk (blk_below (g := gb165) (o := .cells #[.string a2_0, .int .i64 a2_1, .int .i64 a2_2, .string a2_3] 51 (0, 0)) (by (with_reducible repeat (first | refine blk_drewN ?_ _ | refine blk_drew ?_ | refine blk_alloc ?_ _)); exact BK165.out) hb); have n1_ := Aside0.mk (below_step (by repeat (first | (with_reducible first | exact HB.out | apply below_alloc | apply pw_below_drewN | apply below_drew1 | refine below_set ?_ GE165.out) | exact HB.out)) hb); clear BK165; clear HB; have BK165 := n0_; have HB := n1_; clear n0_ n1_; (try clear hb); (try clear hb2); (try clear hk); (try clear hi)))
              go_ret
              exact ⟨by first | rfl | (simp only [show ∀ l_ : List UInt8, (l_ != ([] : List UInt8)) = !l_.isEmpty from (fun l_ => by cases l_ <;> rfl), show ∀ l_ : List UInt8, (l_ == ([] : List UInt8)) = l_.isEmpty from (fun l_ => by cases l_ <;> rfl)]; rfl) | (simp [errW_none, errW_some] <;> rfl) | (simp [*, errW_none, errW_some] <;> rfl), by repeat (first | (with_reducible first | exact HB.out | apply below_alloc | apply pw_below_drewN | apply below_drew1 | refine below_set ?_ GE165.out) | exact HB.out)⟩
            · rw [if_neg c15] at H
              have c15b0 : (t167.toList == ([] : List UInt8)) = false := beq_eq_false_iff_ne.mpr c15
              have c15b1 : (t167.toList != ([] : List UInt8)) = true := bne_iff_ne.mpr c15
              obtain rfl := Option.some.inj H
              have hcz21_0 : wc.cell? ⟨gb165, 0, none⟩ = some (.string a2_0) := (blk_cell BK165.out 0).trans rfl
              have hcz21_1 : wc.cell? ⟨gb165, 1, none⟩ = some (.int .i64 a2_1) := (blk_cell BK165.out 1).trans rfl
              have hcz21_2 : wc.cell? ⟨gb165, 2, none⟩ = some (.int .i64 a2_2) := (blk_cell BK165.out 2).trans rfl
              have hcz21_3 : wc.cell? ⟨gb165, 3, none⟩ = some (.string a2_3) := (blk_cell BK165.out 3).trans rfl
              have hfz21_0 := blk_frozen BK165.out 0
              have hfz21_1 := blk_frozen BK165.out 1
              have hfz21_2 := blk_frozen BK165.out 2
              have hfz21_3 := blk_frozen BK165.out 3
              go_wp2_with (first | ((with_reducible refine gate_callee (f := 8) rfl ?_); refine goesL_ (some 28) rfl rfl Tryd.func8 (by kernel_rfl) rfl #[.slice A0 l0.length c0, .int .i64 1, .int .i64 a2_2, .int .i64 a1] rfl (by (try simp only [List.map_toArray, List.map_cons, List.map_nil]); first | done | rfl | (simp only [List.length_drop, List.length_take]; rfl)) ?_; (with_reducible refine (names_Name.calls _ _ l0 1 a2_2 a1 t167 t168 _ ?side1 ?side2 A14.out).mono ?_); (case side1 => repeat (first | exact (Kd.C_below HR0.out HB.out) | (with_reducible refine Kd.C_alloc ?_ _) | (with_reducible refine Kd.C_drewN ?_ _) | (with_reducible refine Kd.C_drew ?_))); (case side2 => exact HC0.out); rintro e w22 ⟨rfl, hb⟩; refine ⟨_, rfl, ?_⟩; have n0_ := Aside0.mk (blk_below (g := gb165) (o := .cells #[.string a2_0, .int .i64 a2_1, .int .i64 a2_2, .string a2_3] 51 (0, 0)) (by (with_reducible repeat (first | refine blk_drewN ?_ _ | refine blk_drew ?_ | refine blk_alloc ?_ _)); exact BK165.out) hb); have n1_ := Aside0.mk (below_step (by repeat (first | (with_reducible first | exact HB.out | apply below_alloc | apply pw_below_drewN | apply below_drew1 | refine below_set ?_ GE165.out) | exact HB.out)) hb); clear BK165; clear HB; have BK165 := n0_; have HB := n1_; clear n0_ n1_; (try clear hb); (try clear hb2); (try clear hk); (try clear hi)))
              go_ret
              exact ⟨by first | rfl | (simp only [show ∀ l_ : List UInt8, (l_ != ([] : List UInt8)) = !l_.isEmpty from (fun l_ => by cases l_ <;> rfl), show ∀ l_ : List UInt8, (l_ == ([] : List UInt8)) = l_.isEmpty from (fun l_ => by cases l_ <;> rfl)]; rfl) | (simp [errW_none, errW_some] <;> rfl) | (simp [*, errW_none, errW_some] <;> rfl), by repeat (first | (with_reducible first | exact HB.out | apply below_alloc | apply pw_below_drewN | apply below_drew1 | refine below_set ?_ GE165.out) | exact HB.out)⟩
        · replace c11 := Bool.eq_false_iff.mpr c11
          subst c11
          have H1 : (if a2_0.toList = ([103, 105, 100] : List UInt8) then (names_Interpret.j1 kj4 l0 a1 (⟨#[]⟩ : ByteArray) a2_0 (a2_0.toList == ([103, 105, 100] : List UInt8)) a2_0 a2_1 a2_2 a2_3) else (if a2_0.toList = ([101, 103, 105, 100] : List UInt8) then (names_Interpret.j1 kj4 l0 a1 (⟨#[]⟩ : ByteArray) a2_0 (a2_0.toList == ([101, 103, 105, 100] : List UInt8)) a2_0 a2_1 a2_2 a2_3) else (names_Interpret.j1 kj4 l0 a1 (⟨#[]⟩ : ByteArray) a2_0 (a2_0.toList == ([111, 103, 105, 100] : List UInt8)) a2_0 a2_1 a2_2 a2_3))) = some r := by rw [if_neg (show ¬ (false = true) by decide)] at H; exact H
          clear H
          have H := H1
          clear H1
          have HC23 := Aside0.mk H
          clear H
          go_upto_if 31 with (fail)
          go_cut [31] (fun v31 wc => ∃ (kq : Nat) (x31_22 : Bool), v31 = .bool x31_22 ∧ Aside0 (names_Interpret.j1 kq l0 a1 (⟨#[]⟩ : ByteArray) a2_0 x31_22 a2_0 a2_1 a2_2 a2_3 = some r) ∧ Aside0 (kq ≤ kj4) ∧ Aside0 (wc.heap[gb165]? = some (.cells #[.string a2_0, .int .i64 a2_1, .int .i64 a2_2, .string a2_3] 51 (0, 0))) ∧ Aside0 (Below w.heap.size w wc))
          case first =>
            have H := HC23.out
            clear HC23
            by_cases c24 : a2_0.toList = ([103, 105, 100] : List UInt8)
            · rw [if_pos c24] at H
              have c24b0 : (a2_0.toList == ([103, 105, 100] : List UInt8)) = true := beq_iff_eq.mpr c24
              have c24b1 : (a2_0.toList != ([103, 105, 100] : List UInt8)) = false := bne_eq_false_iff_eq.mpr c24
              clear c24
              (first | rw [c24b0] | (simp only [i64_w, i32_w]; rw [c24b0]) | skip)
              have H' := Aside0.mk H
              clear H
              go_wp2
              go_meet
              case rel => exact ⟨_, ((a2_0.toList == ([103, 105, 100] : List UInt8))), (by first | rfl | (simp; done) | (simp [*]; done)), H', ⟨by have := HJ4.out; first | omega | exact Nat.le_refl _⟩, ⟨by (with_reducible repeat (first | refine blk_drewN ?_ _ | refine blk_drew ?_ | refine blk_alloc ?_ _)); exact BK165.out⟩, ⟨by repeat (first | (with_reducible first | exact HB.out | apply below_alloc | apply pw_below_drewN | apply below_drew1 | refine below_set ?_ GE165.out) | exact HB.out)⟩⟩
            · rw [if_neg c24] at H
              have c24b0 : (a2_0.toList == ([103, 105, 100] : List UInt8)) = false := beq_eq_false_iff_ne.mpr c24
              have c24b1 : (a2_0.toList != ([103, 105, 100] : List UInt8)) = true := bne_iff_ne.mpr c24
              (first | rw [c24b0] | (simp only [i64_w, i32_w]; rw [c24b0]) | skip)
              by_cases c25 : a2_0.toList = ([101, 103, 105, 100] : List UInt8)
              · rw [if_pos c25] at H
                have c25b0 : (a2_0.toList == ([101, 103, 105, 100] : List UInt8)) = true := beq_iff_eq.mpr c25
                have c25b1 : (a2_0.toList != ([101, 103, 105, 100] : List UInt8)) = false := bne_eq_false_iff_eq.mpr c25
                clear c25
                have H' := Aside0.mk H
                clear H
                go_wp2
                go_meet
                case rel => exact ⟨_, ((a2_0.toList == ([101, 103, 105, 100] : List UInt8))), (by first | rfl | (simp; done) | (simp [*]; done)), H', ⟨by have := HJ4.out; first | omega | exact Nat.le_refl _⟩, ⟨by (with_reducible repeat (first | refine blk_drewN ?_ _ | refine blk_drew ?_ | refine blk_alloc ?_ _)); exact BK165.out⟩, ⟨by repeat (first | (with_reducible first | exact HB.out | apply below_alloc | apply pw_below_drewN | apply below_drew1 | refine below_set ?_ GE165.out) | exact HB.out)⟩⟩
              · rw [if_neg c25] at H
                have c25b0 : (a2_0.toList == ([101, 103, 105, 100] : List UInt8)) = false := beq_eq_false_iff_ne.mpr c25
                have c25b1 : (a2_0.toList != ([101, 103, 105, 100] : List UInt8)) = true := bne_iff_ne.mpr c25
                have H' := Aside0.mk H
                clear H
                go_wp2
                go_meet
                case rel => exact ⟨_, ((a2_0.toList == ([111, 103, 105, 100] : List UInt8))), (by first | rfl | (simp; done) | (simp [*]; done)), H', ⟨by have := HJ4.out; first | omega | exact Nat.le_refl _⟩, ⟨by (with_reducible repeat (first | refine blk_drewN ?_ _ | refine blk_drew ?_ | refine blk_alloc ?_ _)); exact BK165.out⟩, ⟨by repeat (first | (with_reducible first | exact HB.out | apply below_alloc | apply pw_below_drewN | apply below_drew1 | refine below_set ?_ GE165.out) | exact HB.out)⟩⟩
          case rest =>
            clear HC23
            try clear c1
            try clear c2
            try clear p2
            try clear c4
            try clear c4b0
            try clear c4b1
            try clear c8
            try clear c8b0
            try clear c8b1
            try clear c9
            try clear c9b0
            try clear c9b1
            try clear c10
            try clear c10b0
            try clear c10b1
            try clear c11
            try clear c12
            try clear c12b0
            try clear c12b1
            try clear c15
            try clear c15b0
            try clear c15b1
            try clear c22
            try clear c24
            try clear c24b0
            try clear c24b1
            try clear c25
            try clear c25b0
            try clear c25b1
            try clear hcz13_0
            try clear hcz13_1
            try clear hcz13_2
            try clear hcz13_3
            try clear hcz17_0
            try clear hcz17_1
            try clear hcz17_2
            try clear hcz17_3
            try clear hcz19_0
            try clear hcz19_1
            try clear hcz19_2
            try clear hcz19_3
            try clear hcz21_0
            try clear hcz21_1
            try clear hcz21_2
            try clear hcz21_3
            try clear hcz7_0
            try clear hcz7_1
            try clear hcz7_2
            try clear hcz7_3
            try clear hfz13_0
            try clear hfz13_1
            try clear hfz13_2
            try clear hfz13_3
            try clear hfz17_0
            try clear hfz17_1
            try clear hfz17_2
            try clear hfz17_3
            try clear hfz19_0
            try clear hfz19_1
            try clear hfz19_2
            try clear hfz19_3
            try clear hfz21_0
            try clear hfz21_1
            try clear hfz21_2
            try clear hfz21_3
            try clear hfz7_0
            try clear hfz7_1
            try clear hfz7_2
            try clear hfz7_3
            try clear p2
            obtain ⟨kq, x31_22, rfl, HA, HJ22, BK165, HB⟩ := hcut
            cases kq with
            | zero => exact absurd HA.out (by simp [names_Interpret.j1])
            | succ kj22 =>
              have H := HA.out
              clear HA
              simp only [names_Interpret.j1] at H
              by_cases c26 : x31_22 = true
              · subst c26
                have H1 : ((names_Name.f l0 2 a2_2 a1).bind fun bt170 => (if bt170.1.toList = ([] : List UInt8) then ((names_Plain.f a2_0 a2_1 a2_2 a2_3).bind fun t172 => (some t172)) else (some bt170.1))) = some r := by rw [if_pos rfl] at H; exact H
                clear H
                have H := H1
                clear H1
                replace H := Option.bind_eq_some_iff.mp H
                obtain ⟨⟨t170, t171⟩, A270, H⟩ := H
                replace H : (if t170.toList = ([] : List UInt8) then ((names_Plain.f a2_0 a2_1 a2_2 a2_3).bind fun t172 => (some t172)) else (some t170)) = some r := H
                have A27 := Aside0.mk A270
                clear A270
                by_cases c28 : t170.toList = ([] : List UInt8)
                · rw [if_pos c28] at H
                  have c28b0 : (t170.toList == ([] : List UInt8)) = true := beq_iff_eq.mpr c28
                  have c28b1 : (t170.toList != ([] : List UInt8)) = false := bne_eq_false_iff_eq.mpr c28
                  clear c28
                  replace H := Option.bind_eq_some_iff.mp H
                  obtain ⟨t172, A290, H⟩ := H
                  replace H : (some t172) = some r := H
                  have A29 := Aside0.mk A290
                  clear A290
                  obtain rfl := Option.some.inj H
                  have hcz30_0 : wc.cell? ⟨gb165, 0, none⟩ = some (.string a2_0) := (blk_cell BK165.out 0).trans rfl
                  have hcz30_1 : wc.cell? ⟨gb165, 1, none⟩ = some (.int .i64 a2_1) := (blk_cell BK165.out 1).trans rfl
                  have hcz30_2 : wc.cell? ⟨gb165, 2, none⟩ = some (.int .i64 a2_2) := (blk_cell BK165.out 2).trans rfl
                  have hcz30_3 : wc.cell? ⟨gb165, 3, none⟩ = some (.string a2_3) := (blk_cell BK165.out 3).trans rfl
                  have hfz30_0 := blk_frozen BK165.out 0
                  have hfz30_1 := blk_frozen BK165.out 1
                  have hfz30_2 := blk_frozen BK165.out 2
                  have hfz30_3 := blk_frozen BK165.out 3
                  go_wp2_with (first | ((with_reducible refine gate_callee (f := 8) rfl ?_); refine goesL_ (some 40) rfl rfl Tryd.func8 (by kernel_rfl) rfl #[.slice A0 l0.length c0, .int .i64 2, .int .i64 a2_2, .int .i64 a1] rfl (by (try simp only [List.map_toArray, List.map_cons, List.map_nil]); first | done | rfl | (simp only [List.length_drop, List.length_take]; rfl)) ?_; (with_reducible refine (names_Name.calls _ _ l0 2 a2_2 a1 t170 t171 _ ?side1 ?side2 A27.out).mono ?_); (case side1 => repeat (first | exact (Kd.C_below HR0.out HB.out) | (with_reducible refine Kd.C_alloc ?_ _) | (with_reducible refine Kd.C_drewN ?_ _) | (with_reducible refine Kd.C_drew ?_))); (case side2 => exact HC0.out); rintro e w31 ⟨rfl, hb⟩; refine ⟨_, rfl, ?_⟩; have n0_ := Aside0.mk (blk_below (g := gb165) (o := .cells #[.string a2_0, .int .i64 a2_1, .int .i64 a2_2, .string a2_3] 51 (0, 0)) (by (with_reducible repeat (first | refine blk_drewN ?_ _ | refine blk_drew ?_ | refine blk_alloc ?_ _)); exact BK165.out) hb); have n1_ := Aside0.mk (below_step (by repeat (first | (with_reducible first | exact HB.out | apply below_alloc | apply pw_below_drewN | apply below_drew1 | refine below_set ?_ GE165.out) | exact HB.out)) hb); clear BK165; clear HB; have BK165 := n0_; have HB := n1_; clear n0_ n1_; (try clear hb); (try clear hb2); (try clear hk); (try clear hi); have hcz32_0 : w31.cell? ⟨gb165, 0, none⟩ = some (.string a2_0) := (blk_cell BK165.out 0).trans rfl; have hcz32_1 : w31.cell? ⟨gb165, 1, none⟩ = some (.int .i64 a2_1) := (blk_cell BK165.out 1).trans rfl; have hcz32_2 : w31.cell? ⟨gb165, 2, none⟩ = some (.int .i64 a2_2) := (blk_cell BK165.out 2).trans rfl; have hcz32_3 : w31.cell? ⟨gb165, 3, none⟩ = some (.string a2_3) := (blk_cell BK165.out 3).trans rfl; have hfz32_0 := blk_frozen BK165.out 0; have hfz32_1 := blk_frozen BK165.out 1; have hfz32_2 := blk_frozen BK165.out 2; have hfz32_3 := blk_frozen BK165.out 3) | ((with_reducible refine gate_callee (f := 28) rfl ?_); refine goesL_ (some 79) rfl rfl Tryd.func28 (by kernel_rfl) rfl #[.agg #[.string a2_0, .int .i64 a2_1, .int .i64 a2_2, .string a2_3]] rfl (by (try simp only [List.map_toArray, List.map_cons, List.map_nil]); first | done | rfl | (simp only [List.length_drop, List.length_take]; rfl)) ?_; (with_reducible refine (names_Plain.calls a2_0 a2_1 a2_2 a2_3 t172 _ A29.out).mono ?_); rintro e w33 ⟨rfl, hb⟩; refine ⟨_, rfl, ?_⟩; have n0_ := Aside0.mk (blk_below (g := gb165) (o := .cells #[.string a2_0, .int .i64 a2_1, .int .i64 a2_2, .string a2_3] 51 (0, 0)) (by (with_reducible repeat (first | refine blk_drewN ?_ _ | refine blk_drew ?_ | refine blk_alloc ?_ _)); exact BK165.out) hb); have n1_ := Aside0.mk (below_step (by repeat (first | (with_reducible first | exact HB.out | apply below_alloc | apply pw_below_drewN | apply below_drew1 | refine below_set ?_ GE165.out) | exact HB.out)) hb); clear BK165; clear HB; have BK165 := n0_; have HB := n1_; clear n0_ n1_; (try clear hb); (try clear hb2); (try clear hk); (try clear hi)))
                  go_ret
                  exact ⟨by first | rfl | (simp only [show ∀ l_ : List UInt8, (l_ != ([] : List UInt8)) = !l_.isEmpty from (fun l_ => by cases l_ <;> rfl), show ∀ l_ : List UInt8, (l_ == ([] : List UInt8)) = l_.isEmpty from (fun l_ => by cases l_ <;> rfl)]; rfl) | (simp [errW_none, errW_some] <;> rfl) | (simp [*, errW_none, errW_some] <;> rfl), by repeat (first | (with_reducible first | exact HB.out | apply below_alloc | apply pw_below_drewN | apply below_drew1 | refine below_set ?_ GE165.out) | exact HB.out)⟩
                · rw [if_neg c28] at H
                  have c28b0 : (t170.toList == ([] : List UInt8)) = false := beq_eq_false_iff_ne.mpr c28
                  have c28b1 : (t170.toList != ([] : List UInt8)) = true := bne_iff_ne.mpr c28
                  obtain rfl := Option.some.inj H
                  have hcz34_0 : wc.cell? ⟨gb165, 0, none⟩ = some (.string a2_0) := (blk_cell BK165.out 0).trans rfl
                  have hcz34_1 : wc.cell? ⟨gb165, 1, none⟩ = some (.int .i64 a2_1) := (blk_cell BK165.out 1).trans rfl
                  have hcz34_2 : wc.cell? ⟨gb165, 2, none⟩ = some (.int .i64 a2_2) := (blk_cell BK165.out 2).trans rfl
                  have hcz34_3 : wc.cell? ⟨gb165, 3, none⟩ = some (.string a2_3) := (blk_cell BK165.out 3).trans rfl
                  have hfz34_0 := blk_frozen BK165.out 0
                  have hfz34_1 := blk_frozen BK165.out 1
                  have hfz34_2 := blk_frozen BK165.out 2
                  have hfz34_3 := blk_frozen BK165.out 3
                  go_wp2_with (first | ((with_reducible refine gate_callee (f := 8) rfl ?_); refine goesL_ (some 40) rfl rfl Tryd.func8 (by kernel_rfl) rfl #[.slice A0 l0.length c0, .int .i64 2, .int .i64 a2_2, .int .i64 a1] rfl (by (try simp only [List.map_toArray, List.map_cons, List.map_nil]); first | done | rfl | (simp only [List.length_drop, List.length_take]; rfl)) ?_; (with_reducible refine (names_Name.calls _ _ l0 2 a2_2 a1 t170 t171 _ ?side1 ?side2 A27.out).mono ?_); (case side1 => repeat (first | exact (Kd.C_below HR0.out HB.out) | (with_reducible refine Kd.C_alloc ?_ _) | (with_reducible refine Kd.C_drewN ?_ _) | (with_reducible refine Kd.C_drew ?_))); (case side2 => exact HC0.out); rintro e w35 ⟨rfl, hb⟩; refine ⟨_, rfl, ?_⟩; have n0_ := Aside0.mk (blk_below (g := gb165) (o := .cells #[.string a2_0, .int .i64 a2_1, .int .i64 a2_2, .string a2_3] 51 (0, 0)) (by (with_reducible repeat (first | refine blk_drewN ?_ _ | refine blk_drew ?_ | refine blk_alloc ?_ _)); exact BK165.out) hb); have n1_ := Aside0.mk (below_step (by repeat (first | (with_reducible first | exact HB.out | apply below_alloc | apply pw_below_drewN | apply below_drew1 | refine below_set ?_ GE165.out) | exact HB.out)) hb); clear BK165; clear HB; have BK165 := n0_; have HB := n1_; clear n0_ n1_; (try clear hb); (try clear hb2); (try clear hk); (try clear hi)))
                  go_ret
                  exact ⟨by first | rfl | (simp only [show ∀ l_ : List UInt8, (l_ != ([] : List UInt8)) = !l_.isEmpty from (fun l_ => by cases l_ <;> rfl), show ∀ l_ : List UInt8, (l_ == ([] : List UInt8)) = l_.isEmpty from (fun l_ => by cases l_ <;> rfl)]; rfl) | (simp [errW_none, errW_some] <;> rfl) | (simp [*, errW_none, errW_some] <;> rfl), by repeat (first | (with_reducible first | exact HB.out | apply below_alloc | apply pw_below_drewN | apply below_drew1 | refine below_set ?_ GE165.out) | exact HB.out)⟩
              · replace c26 := Bool.eq_false_iff.mpr c26
                subst c26
                have H1 : (if a2_0.toList = ([115, 101, 115] : List UInt8) then (if a2_2 = 4294967295 then (some (⟨#[117, 110, 115, 101, 116]⟩ : ByteArray)) else (if (⟨#[]⟩ : ByteArray).toList = ([] : List UInt8) then ((names_Plain.f a2_0 a2_1 a2_2 a2_3).bind fun t173 => (some t173)) else (some (⟨#[]⟩ : ByteArray)))) else (if a2_0.toList = ([101, 120, 105, 116] : List UInt8) then (if a2_2 < 0 then (names_Interpret.j2 kj22 (⟨#[]⟩ : ByteArray) (decide (a2_2 > (-9223372036854775808))) a2_0 a2_1 a2_2 a2_3) else (names_Interpret.j2 kj22 (⟨#[]⟩ : ByteArray) false a2_0 a2_1 a2_2 a2_3)) else (if a2_0.toList = ([109, 111, 100, 101] : List UInt8) then ((access_Format.f a2_2).bind fun t178 => (if t178.toList = ([] : List UInt8) then ((names_Plain.f a2_0 a2_1 a2_2 a2_3).bind fun t179 => (some t179)) else (some t178))) else (if a2_0.toList = ([112, 101, 114, 109] : List UInt8) then ((names_perms.f a2_2).bind fun t180 => (if t180.toList = ([] : List UInt8) then ((names_Plain.f a2_0 a2_1 a2_2 a2_3).bind fun t181 => (some t181)) else (some t180))) else (if (⟨#[]⟩ : ByteArray).toList = ([] : List UInt8) then ((names_Plain.f a2_0 a2_1 a2_2 a2_3).bind fun t182 => (some t182)) else (some (⟨#[]⟩ : ByteArray))))))) = some r := by rw [if_neg (show ¬ (false = true) by decide)] at H; exact H
                clear H
                have H := H1
                clear H1
                by_cases c36 : a2_0.toList = ([115, 101, 115] : List UInt8)
                · rw [if_pos c36] at H
                  have c36b0 : (a2_0.toList == ([115, 101, 115] : List UInt8)) = true := beq_iff_eq.mpr c36
                  have c36b1 : (a2_0.toList != ([115, 101, 115] : List UInt8)) = false := bne_eq_false_iff_eq.mpr c36
                  clear c36
                  by_cases c37 : a2_2 = 4294967295
                  · rw [if_pos c37] at H
                    have c37b0 : (a2_2 == 4294967295) = true := beq_iff_eq.mpr c37
                    have c37b1 : (a2_2 != 4294967295) = false := bne_eq_false_iff_eq.mpr c37
                    clear c37
                    obtain rfl := Option.some.inj H
                    have hcz38_0 : wc.cell? ⟨gb165, 0, none⟩ = some (.string a2_0) := (blk_cell BK165.out 0).trans rfl
                    have hcz38_1 : wc.cell? ⟨gb165, 1, none⟩ = some (.int .i64 a2_1) := (blk_cell BK165.out 1).trans rfl
                    have hcz38_2 : wc.cell? ⟨gb165, 2, none⟩ = some (.int .i64 a2_2) := (blk_cell BK165.out 2).trans rfl
                    have hcz38_3 : wc.cell? ⟨gb165, 3, none⟩ = some (.string a2_3) := (blk_cell BK165.out 3).trans rfl
                    have hfz38_0 := blk_frozen BK165.out 0
                    have hfz38_1 := blk_frozen BK165.out 1
                    have hfz38_2 := blk_frozen BK165.out 2
                    have hfz38_3 := blk_frozen BK165.out 3
                    go_wp2
                    go_ret
                    exact ⟨by first | rfl | (simp only [show ∀ l_ : List UInt8, (l_ != ([] : List UInt8)) = !l_.isEmpty from (fun l_ => by cases l_ <;> rfl), show ∀ l_ : List UInt8, (l_ == ([] : List UInt8)) = l_.isEmpty from (fun l_ => by cases l_ <;> rfl)]; rfl) | (simp [errW_none, errW_some] <;> rfl) | (simp [*, errW_none, errW_some] <;> rfl), by repeat (first | (with_reducible first | exact HB.out | apply below_alloc | apply pw_below_drewN | apply below_drew1 | refine below_set ?_ GE165.out) | exact HB.out)⟩
                  · rw [if_neg c37] at H
                    have c37b0 : (a2_2 == 4294967295) = false := beq_eq_false_iff_ne.mpr c37
                    have c37b1 : (a2_2 != 4294967295) = true := bne_iff_ne.mpr c37
                    by_cases c39 : (⟨#[]⟩ : ByteArray).toList = ([] : List UInt8)
                    · rw [if_pos c39] at H
                      have c39b0 : ((⟨#[]⟩ : ByteArray).toList == ([] : List UInt8)) = true := beq_iff_eq.mpr c39
                      have c39b1 : ((⟨#[]⟩ : ByteArray).toList != ([] : List UInt8)) = false := bne_eq_false_iff_eq.mpr c39
                      clear c39
                      replace H := Option.bind_eq_some_iff.mp H
                      obtain ⟨t173, A400, H⟩ := H
                      replace H : (some t173) = some r := H
                      have A40 := Aside0.mk A400
                      clear A400
                      obtain rfl := Option.some.inj H
                      have hcz41_0 : wc.cell? ⟨gb165, 0, none⟩ = some (.string a2_0) := (blk_cell BK165.out 0).trans rfl
                      have hcz41_1 : wc.cell? ⟨gb165, 1, none⟩ = some (.int .i64 a2_1) := (blk_cell BK165.out 1).trans rfl
                      have hcz41_2 : wc.cell? ⟨gb165, 2, none⟩ = some (.int .i64 a2_2) := (blk_cell BK165.out 2).trans rfl
                      have hcz41_3 : wc.cell? ⟨gb165, 3, none⟩ = some (.string a2_3) := (blk_cell BK165.out 3).trans rfl
                      have hfz41_0 := blk_frozen BK165.out 0
                      have hfz41_1 := blk_frozen BK165.out 1
                      have hfz41_2 := blk_frozen BK165.out 2
                      have hfz41_3 := blk_frozen BK165.out 3
                      go_wp2_with (first | ((with_reducible refine gate_callee (f := 28) rfl ?_); refine goesL_ (some 79) rfl rfl Tryd.func28 (by kernel_rfl) rfl #[.agg #[.string a2_0, .int .i64 a2_1, .int .i64 a2_2, .string a2_3]] rfl (by (try simp only [List.map_toArray, List.map_cons, List.map_nil]); first | done | rfl | (simp only [List.length_drop, List.length_take]; rfl)) ?_; (with_reducible refine (names_Plain.calls a2_0 a2_1 a2_2 a2_3 t173 _ A40.out).mono ?_); rintro e w42 ⟨rfl, hb⟩; refine ⟨_, rfl, ?_⟩; have n0_ := Aside0.mk (blk_below (g := gb165) (o := .cells #[.string a2_0, .int .i64 a2_1, .int .i64 a2_2, .string a2_3] 51 (0, 0)) (by (with_reducible repeat (first | refine blk_drewN ?_ _ | refine blk_drew ?_ | refine blk_alloc ?_ _)); exact BK165.out) hb); have n1_ := Aside0.mk (below_step (by repeat (first | (with_reducible first | exact HB.out | apply below_alloc | apply pw_below_drewN | apply below_drew1 | refine below_set ?_ GE165.out) | exact HB.out)) hb); clear BK165; clear HB; have BK165 := n0_; have HB := n1_; clear n0_ n1_; (try clear hb); (try clear hb2); (try clear hk); (try clear hi)))
                      go_ret
                      exact ⟨by first | rfl | (simp only [show ∀ l_ : List UInt8, (l_ != ([] : List UInt8)) = !l_.isEmpty from (fun l_ => by cases l_ <;> rfl), show ∀ l_ : List UInt8, (l_ == ([] : List UInt8)) = l_.isEmpty from (fun l_ => by cases l_ <;> rfl)]; rfl) | (simp [errW_none, errW_some] <;> rfl) | (simp [*, errW_none, errW_some] <;> rfl), by repeat (first | (with_reducible first | exact HB.out | apply below_alloc | apply pw_below_drewN | apply below_drew1 | refine below_set ?_ GE165.out) | exact HB.out)⟩
                    · exact (c39 (by first | rfl | decide +kernel | simp)).elim
                · rw [if_neg c36] at H
                  have c36b0 : (a2_0.toList == ([115, 101, 115] : List UInt8)) = false := beq_eq_false_iff_ne.mpr c36
                  have c36b1 : (a2_0.toList != ([115, 101, 115] : List UInt8)) = true := bne_iff_ne.mpr c36
                  by_cases c44 : a2_0.toList = ([101, 120, 105, 116] : List UInt8)
                  · rw [if_pos c44] at H
                    have c44b0 : (a2_0.toList == ([101, 120, 105, 116] : List UInt8)) = true := beq_iff_eq.mpr c44
                    have c44b1 : (a2_0.toList != ([101, 120, 105, 116] : List UInt8)) = false := bne_eq_false_iff_eq.mpr c44
                    clear c44
                    have HC45 := Aside0.mk H
                    clear H
                    go_upto_region 20 with (fail)
                    go_cut [57] (fun v57 wc => ∃ (kq : Nat) (x57_44 : Bool), v57 = .bool x57_44 ∧ Aside0 (names_Interpret.j2 kq (⟨#[]⟩ : ByteArray) x57_44 a2_0 a2_1 a2_2 a2_3 = some r) ∧ Aside0 (kq ≤ kj22) ∧ Aside0 (wc.heap[gb165]? = some (.cells #[.string a2_0, .int .i64 a2_1, .int .i64 a2_2, .string a2_3] 51 (0, 0))) ∧ Aside0 (Below w.heap.size w wc))
                    case first =>
                      have H := HC45.out
                      clear HC45
                      by_cases c46 : a2_2 < 0
                      · rw [if_pos c46] at H
                        have c46b0 : decide (a2_2 < 0) = true := decide_eq_true c46
                        clear c46
                        (first | rw [c46b0] | (simp only [i64_w, i32_w]; rw [c46b0]) | skip)
                        have H' := Aside0.mk H
                        clear H
                        have hcz47_0 : wc.cell? ⟨gb165, 0, none⟩ = some (.string a2_0) := (blk_cell BK165.out 0).trans rfl
                        have hcz47_1 : wc.cell? ⟨gb165, 1, none⟩ = some (.int .i64 a2_1) := (blk_cell BK165.out 1).trans rfl
                        have hcz47_2 : wc.cell? ⟨gb165, 2, none⟩ = some (.int .i64 a2_2) := (blk_cell BK165.out 2).trans rfl
                        have hcz47_3 : wc.cell? ⟨gb165, 3, none⟩ = some (.string a2_3) := (blk_cell BK165.out 3).trans rfl
                        have hfz47_0 := blk_frozen BK165.out 0
                        have hfz47_1 := blk_frozen BK165.out 1
                        have hfz47_2 := blk_frozen BK165.out 2
                        have hfz47_3 := blk_frozen BK165.out 3
                        go_wp2
                        go_meet
                        case rel => exact ⟨_, (decide (a2_2 > (-9223372036854775808))), (by first | rfl | (simp; done) | (simp [*]; done)), H', ⟨by have := HJ4.out; have := HJ22.out; first | omega | exact Nat.le_refl _⟩, ⟨by (with_reducible repeat (first | refine blk_drewN ?_ _ | refine blk_drew ?_ | refine blk_alloc ?_ _)); exact BK165.out⟩, ⟨by repeat (first | (with_reducible first | exact HB.out | apply below_alloc | apply pw_below_drewN | apply below_drew1 | refine below_set ?_ GE165.out) | exact HB.out)⟩⟩
                      · rw [if_neg c46] at H
                        have c46b0 : decide (a2_2 < 0) = false := decide_eq_false c46
                        clear c46
                        (first | rw [c46b0] | (simp only [i64_w, i32_w]; rw [c46b0]) | skip)
                        have H' := Aside0.mk H
                        clear H
                        have hcz48_0 : wc.cell? ⟨gb165, 0, none⟩ = some (.string a2_0) := (blk_cell BK165.out 0).trans rfl
                        have hcz48_1 : wc.cell? ⟨gb165, 1, none⟩ = some (.int .i64 a2_1) := (blk_cell BK165.out 1).trans rfl
                        have hcz48_2 : wc.cell? ⟨gb165, 2, none⟩ = some (.int .i64 a2_2) := (blk_cell BK165.out 2).trans rfl
                        have hcz48_3 : wc.cell? ⟨gb165, 3, none⟩ = some (.string a2_3) := (blk_cell BK165.out 3).trans rfl
                        have hfz48_0 := blk_frozen BK165.out 0
                        have hfz48_1 := blk_frozen BK165.out 1
                        have hfz48_2 := blk_frozen BK165.out 2
                        have hfz48_3 := blk_frozen BK165.out 3
                        go_wp2
                        go_meet
                        case rel => exact ⟨_, (false), (by first | rfl | (simp; done) | (simp [*]; done)), H', ⟨by have := HJ4.out; have := HJ22.out; first | omega | exact Nat.le_refl _⟩, ⟨by (with_reducible repeat (first | refine blk_drewN ?_ _ | refine blk_drew ?_ | refine blk_alloc ?_ _)); exact BK165.out⟩, ⟨by repeat (first | (with_reducible first | exact HB.out | apply below_alloc | apply pw_below_drewN | apply below_drew1 | refine below_set ?_ GE165.out) | exact HB.out)⟩⟩
                    case rest =>
                      clear HC45
                      try clear c1
                      try clear c2
                      try clear p2
                      try clear c3
                      try clear c4
                      try clear c4b0
                      try clear c4b1
                      try clear c8
                      try clear c8b0
                      try clear c8b1
                      try clear c9
                      try clear c9b0
                      try clear c9b1
                      try clear c10
                      try clear c10b0
                      try clear c10b1
                      try clear c11
                      try clear c12
                      try clear c12b0
                      try clear c12b1
                      try clear c15
                      try clear c15b0
                      try clear c15b1
                      try clear c22
                      try clear c24
                      try clear c24b0
                      try clear c24b1
                      try clear c25
                      try clear c25b0
                      try clear c25b1
                      try clear c26
                      try clear c28
                      try clear c28b0
                      try clear c28b1
                      try clear c36
                      try clear c36b0
                      try clear c36b1
                      try clear c37
                      try clear c37b0
                      try clear c37b1
                      try clear c39
                      try clear c39b0
                      try clear c39b1
                      try clear c44
                      try clear c44b0
                      try clear c44b1
                      try clear c46
                      try clear c46b0
                      try clear hcz13_0
                      try clear hcz13_1
                      try clear hcz13_2
                      try clear hcz13_3
                      try clear hcz17_0
                      try clear hcz17_1
                      try clear hcz17_2
                      try clear hcz17_3
                      try clear hcz19_0
                      try clear hcz19_1
                      try clear hcz19_2
                      try clear hcz19_3
                      try clear hcz21_0
                      try clear hcz21_1
                      try clear hcz21_2
                      try clear hcz21_3
                      try clear hcz30_0
                      try clear hcz30_1
                      try clear hcz30_2
                      try clear hcz30_3
                      try clear hcz32_0
                      try clear hcz32_1
                      try clear hcz32_2
                      try clear hcz32_3
                      try clear hcz34_0
                      try clear hcz34_1
                      try clear hcz34_2
                      try clear hcz34_3
                      try clear hcz38_0
                      try clear hcz38_1
                      try clear hcz38_2
                      try clear hcz38_3
                      try clear hcz41_0
                      try clear hcz41_1
                      try clear hcz41_2
                      try clear hcz41_3
                      try clear hcz43_0
                      try clear hcz43_1
                      try clear hcz43_2
                      try clear hcz43_3
                      try clear hcz47_0
                      try clear hcz47_1
                      try clear hcz47_2
                      try clear hcz47_3
                      try clear hcz48_0
                      try clear hcz48_1
                      try clear hcz48_2
                      try clear hcz48_3
                      try clear hcz7_0
                      try clear hcz7_1
                      try clear hcz7_2
                      try clear hcz7_3
                      try clear hfz13_0
                      try clear hfz13_1
                      try clear hfz13_2
                      try clear hfz13_3
                      try clear hfz17_0
                      try clear hfz17_1
                      try clear hfz17_2
                      try clear hfz17_3
                      try clear hfz19_0
                      try clear hfz19_1
                      try clear hfz19_2
                      try clear hfz19_3
                      try clear hfz21_0
                      try clear hfz21_1
                      try clear hfz21_2
                      try clear hfz21_3
                      try clear hfz30_0
                      try clear hfz30_1
                      try clear hfz30_2
                      try clear hfz30_3
                      try clear hfz32_0
                      try clear hfz32_1
                      try clear hfz32_2
                      try clear hfz32_3
                      try clear hfz34_0
                      try clear hfz34_1
                      try clear hfz34_2
                      try clear hfz34_3
                      try clear hfz38_0
                      try clear hfz38_1
                      try clear hfz38_2
                      try clear hfz38_3
                      try clear hfz41_0
                      try clear hfz41_1
                      try clear hfz41_2
                      try clear hfz41_3
                      try clear hfz43_0
                      try clear hfz43_1
                      try clear hfz43_2
                      try clear hfz43_3
                      try clear hfz47_0
                      try clear hfz47_1
                      try clear hfz47_2
                      try clear hfz47_3
                      try clear hfz48_0
                      try clear hfz48_1
                      try clear hfz48_2
                      try clear hfz48_3
                      try clear hfz7_0
                      try clear hfz7_1
                      try clear hfz7_2
                      try clear hfz7_3
                      try clear p2
                      obtain ⟨kq, x57_44, rfl, HA, HJ44, BK165, HB⟩ := hcut
                      cases kq with
                      | zero => exact absurd HA.out (by simp [names_Interpret.j2])
                      | succ kj44 =>
                        have H := HA.out
                        clear HA
                        simp only [names_Interpret.j2] at H
                        by_cases c49 : x57_44 = true
                        · subst c49
                          have H1 : ((names_ErrorName.f (wrap64 (-a2_2))).bind fun t174 => (if t174.toList = ([] : List UInt8) then ((names_Plain.f a2_0 a2_1 a2_2 a2_3).bind fun t175 => (some t175)) else (if 1 + t174.size ≤ 9223372036854775807 then (if ((⟨#[45]⟩ : ByteArray) ++ t174).toList = ([] : List UInt8) then ((names_Plain.f a2_0 a2_1 a2_2 a2_3).bind fun t176 => (some t176)) else (some ((⟨#[45]⟩ : ByteArray) ++ t174))) else (none)))) = some r := by rw [if_pos rfl] at H; exact H
                          clear H
                          have H := H1
                          clear H1
                          replace H := Option.bind_eq_some_iff.mp H
                          obtain ⟨t174, A500, H⟩ := H
                          replace H : (if t174.toList = ([] : List UInt8) then ((names_Plain.f a2_0 a2_1 a2_2 a2_3).bind fun t175 => (some t175)) else (if 1 + t174.size ≤ 9223372036854775807 then (if ((⟨#[45]⟩ : ByteArray) ++ t174).toList = ([] : List UInt8) then ((names_Plain.f a2_0 a2_1 a2_2 a2_3).bind fun t176 => (some t176)) else (some ((⟨#[45]⟩ : ByteArray) ++ t174))) else (none))) = some r := H
                          have A50 := Aside0.mk A500
                          clear A500
                          by_cases c51 : t174.toList = ([] : List UInt8)
                          · rw [if_pos c51] at H
                            have c51b0 : (t174.toList == ([] : List UInt8)) = true := beq_iff_eq.mpr c51
                            have c51b1 : (t174.toList != ([] : List UInt8)) = false := bne_eq_false_iff_eq.mpr c51
                            clear c51
                            replace H := Option.bind_eq_some_iff.mp H
                            obtain ⟨t175, A520, H⟩ := H
                            replace H : (some t175) = some r := H
                            have A52 := Aside0.mk A520
                            clear A520
                            obtain rfl := Option.some.inj H
                            have hcz53_0 : wc.cell? ⟨gb165, 0, none⟩ = some (.string a2_0) := (blk_cell BK165.out 0).trans rfl
                            have hcz53_1 : wc.cell? ⟨gb165, 1, none⟩ = some (.int .i64 a2_1) := (blk_cell BK165.out 1).trans rfl
                            have hcz53_2 : wc.cell? ⟨gb165, 2, none⟩ = some (.int .i64 a2_2) := (blk_cell BK165.out 2).trans rfl
                            have hcz53_3 : wc.cell? ⟨gb165, 3, none⟩ = some (.string a2_3) := (blk_cell BK165.out 3).trans rfl
                            have hfz53_0 := blk_frozen BK165.out 0
                            have hfz53_1 := blk_frozen BK165.out 1
                            have hfz53_2 := blk_frozen BK165.out 2
                            have hfz53_3 := blk_frozen BK165.out 3
                            go_wp2_with (first | ((with_reducible refine gate_callee (f := 29) rfl ?_); refine goesL_ (some 61) rfl rfl Tryd.func29 (by kernel_rfl) rfl #[.int .i64 (wrap64 (-a2_2))] rfl (by (try simp only [List.map_toArray, List.map_cons, List.map_nil]); first | done | rfl | (simp only [List.length_drop, List.length_take]; rfl)) ?_; (with_reducible refine (names_ErrorName.calls (wrap64 (-a2_2)) t174 _ A50.out).mono ?_); rintro e w54 ⟨rfl, hb⟩; refine ⟨_, rfl, ?_⟩; have n0_ := Aside0.mk (blk_below (g := gb165) (o := .cells #[.string a2_0, .int .i64 a2_1, .int .i64 a2_2, .string a2_3] 51 (0, 0)) (by (with_reducible repeat (first | refine blk_drewN ?_ _ | refine blk_drew ?_ | refine blk_alloc ?_ _)); exact BK165.out) hb); have n1_ := Aside0.mk (below_step (by repeat (first | (with_reducible first | exact HB.out | apply below_alloc | apply pw_below_drewN | apply below_drew1 | refine below_set ?_ GE165.out) | exact HB.out)) hb); clear BK165; clear HB; have BK165 := n0_; have HB := n1_; clear n0_ n1_; (try clear hb); (try clear hb2); (try clear hk); (try clear hi); have hcz55_0 : w54.cell? ⟨gb165, 0, none⟩ = some (.string a2_0) := (blk_cell BK165.out 0).trans rfl; have hcz55_1 : w54.cell? ⟨gb165, 1, none⟩ = some (.int .i64 a2_1) := (blk_cell BK165.out 1).trans rfl; have hcz55_2 : w54.cell? ⟨gb165, 2, none⟩ = some (.int .i64 a2_2) := (blk_cell BK165.out 2).trans rfl; have hcz55_3 : w54.cell? ⟨gb165, 3, none⟩ = some (.string a2_3) := (blk_cell BK165.out 3).trans rfl; have hfz55_0 := blk_frozen BK165.out 0; have hfz55_1 := blk_frozen BK165.out 1; have hfz55_2 := blk_frozen BK165.out 2; have hfz55_3 := blk_frozen BK165.out 3) | ((with_reducible refine gate_callee (f := 28) rfl ?_); refine goesL_ (some 79) rfl rfl Tryd.func28 (by kernel_rfl) rfl #[.agg #[.string a2_0, .int .i64 a2_1, .int .i64 a2_2, .string a2_3]] rfl (by (try simp only [List.map_toArray, List.map_cons, List.map_nil]); first | done | rfl | (simp only [List.length_drop, List.length_take]; rfl)) ?_; (with_reducible refine (names_Plain.calls a2_0 a2_1 a2_2 a2_3 t175 _ A52.out).mono ?_); rintro e w56 ⟨rfl, hb⟩; refine ⟨_, rfl, ?_⟩; have n0_ := Aside0.mk (blk_below (g := gb165) (o := .cells #[.string a2_0, .int .i64 a2_1, .int .i64 a2_2, .string a2_3] 51 (0, 0)) (by (with_reducible repeat (first | refine blk_drewN ?_ _ | refine blk_drew ?_ | refine blk_alloc ?_ _)); exact BK165.out) hb); have n1_ := Aside0.mk (below_step (by repeat (first | (with_reducible first | exact HB.out | apply below_alloc | apply pw_below_drewN | apply below_drew1 | refine below_set ?_ GE165.out) | exact HB.out)) hb); clear BK165; clear HB; have BK165 := n0_; have HB := n1_; clear n0_ n1_; (try clear hb); (try clear hb2); (try clear hk); (try clear hi)))
                            go_ret
                            exact ⟨by first | rfl | (simp only [show ∀ l_ : List UInt8, (l_ != ([] : List UInt8)) = !l_.isEmpty from (fun l_ => by cases l_ <;> rfl), show ∀ l_ : List UInt8, (l_ == ([] : List UInt8)) = l_.isEmpty from (fun l_ => by cases l_ <;> rfl)]; rfl) | (simp [errW_none, errW_some] <;> rfl) | (simp [*, errW_none, errW_some] <;> rfl), by repeat (first | (with_reducible first | exact HB.out | apply below_alloc | apply pw_below_drewN | apply below_drew1 | refine below_set ?_ GE165.out) | exact HB.out)⟩
                          · rw [if_neg c51] at H
                            have c51b0 : (t174.toList == ([] : List UInt8)) = false := beq_eq_false_iff_ne.mpr c51
                            have c51b1 : (t174.toList != ([] : List UInt8)) = true := bne_iff_ne.mpr c51
                            by_cases c57 : 1 + t174.size ≤ 9223372036854775807
                            · rw [if_pos c57] at H
                              have c57b0 := eq_true c57
                              have c57b1 : decide (1 + t174.size ≤ 9223372036854775807) = true := decide_eq_true c57
                              try have c57b2 : (9223372036854775807 < 1 + t174.size) = False := eq_false (Nat.not_lt.2 c57)
                              by_cases c58 : ((⟨#[45]⟩ : ByteArray) ++ t174).toList = ([] : List UInt8)
                              · rw [if_pos c58] at H
                                have c58b0 : (((⟨#[45]⟩ : ByteArray) ++ t174).toList == ([] : List UInt8)) = true := beq_iff_eq.mpr c58
                                have c58b1 : (((⟨#[45]⟩ : ByteArray) ++ t174).toList != ([] : List UInt8)) = false := bne_eq_false_iff_eq.mpr c58
                                clear c58
                                replace H := Option.bind_eq_some_iff.mp H
                                obtain ⟨t176, A590, H⟩ := H
                                replace H : (some t176) = some r := H
                                have A59 := Aside0.mk A590
                                clear A590
                                obtain rfl := Option.some.inj H
                                have hcz60_0 : wc.cell? ⟨gb165, 0, none⟩ = some (.string a2_0) := (blk_cell BK165.out 0).trans rfl
                                have hcz60_1 : wc.cell? ⟨gb165, 1, none⟩ = some (.int .i64 a2_1) := (blk_cell BK165.out 1).trans rfl
                                have hcz60_2 : wc.cell? ⟨gb165, 2, none⟩ = some (.int .i64 a2_2) := (blk_cell BK165.out 2).trans rfl
                                have hcz60_3 : wc.cell? ⟨gb165, 3, none⟩ = some (.string a2_3) := (blk_cell BK165.out 3).trans rfl
                                have hfz60_0 := blk_frozen BK165.out 0
                                have hfz60_1 := blk_frozen BK165.out 1
                                have hfz60_2 := blk_frozen BK165.out 2
                                have hfz60_3 := blk_frozen BK165.out 3
                                go_wp2_with (first | ((with_reducible refine gate_callee (f := 29) rfl ?_); refine goesL_ (some 61) rfl rfl Tryd.func29 (by kernel_rfl) rfl #[.int .i64 (wrap64 (-a2_2))] rfl (by (try simp only [List.map_toArray, List.map_cons, List.map_nil]); first | done | rfl | (simp only [List.length_drop, List.length_take]; rfl)) ?_; (with_reducible refine (names_ErrorName.calls (wrap64 (-a2_2)) t174 _ A50.out).mono ?_); rintro e w61 ⟨rfl, hb⟩; refine ⟨_, rfl, ?_⟩; have n0_ := Aside0.mk (blk_below (g := gb165) (o := .cells #[.string a2_0, .int .i64 a2_1, .int .i64 a2_2, .string a2_3] 51 (0, 0)) (by (with_reducible repeat (first | refine blk_drewN ?_ _ | refine blk_drew ?_ | refine blk_alloc ?_ _)); exact BK165.out) hb); have n1_ := Aside0.mk (below_step (by repeat (first | (with_reducible first | exact HB.out | apply below_alloc | apply pw_below_drewN | apply below_drew1 | refine below_set ?_ GE165.out) | exact HB.out)) hb); clear BK165; clear HB; have BK165 := n0_; have HB := n1_; clear n0_ n1_; (try clear hb); (try clear hb2); (try clear hk); (try clear hi); have hcz62_0 : w61.cell? ⟨gb165, 0, none⟩ = some (.string a2_0) := (blk_cell BK165.out 0).trans rfl; have hcz62_1 : w61.cell? ⟨gb165, 1, none⟩ = some (.int .i64 a2_1) := (blk_cell BK165.out 1).trans rfl; have hcz62_2 : w61.cell? ⟨gb165, 2, none⟩ = some (.int .i64 a2_2) := (blk_cell BK165.out 2).trans rfl; have hcz62_3 : w61.cell? ⟨gb165, 3, none⟩ = some (.string a2_3) := (blk_cell BK165.out 3).trans rfl; have hfz62_0 := blk_frozen BK165.out 0; have hfz62_1 := blk_frozen BK165.out 1; have hfz62_2 := blk_frozen BK165.out 2; have hfz62_3 := blk_frozen BK165.out 3) | ((with_reducible refine gate_callee (f := 28) rfl ?_); refine goesL_ (some 79) rfl rfl Tryd.func28 (by kernel_rfl) rfl #[.agg #[.string a2_0, .int .i64 a2_1, .int .i64 a2_2, .string a2_3]] rfl (by (try simp only [List.map_toArray, List.map_cons, List.map_nil]); first | done | rfl | (simp only [List.length_drop, List.length_take]; rfl)) ?_; (with_reducible refine (names_Plain.calls a2_0 a2_1 a2_2 a2_3 t176 _ A59.out).mono ?_); rintro e w63 ⟨rfl, hb⟩; refine ⟨_, rfl, ?_⟩; have n0_ := Aside0.mk (blk_below (g := gb165) (o := .cells #[.string a2_0, .int .i64 a2_1, .int .i64 a2_2, .string a2_3] 51 (0, 0)) (by (with_reducible repeat (first | refine blk_drewN ?_ _ | refine blk_drew ?_ | refine blk_alloc ?_ _)); exact BK165.out) hb); have n1_ := Aside0.mk (below_step (by repeat (first | (with_reducible first | exact HB.out | apply below_alloc | apply pw_below_drewN | apply below_drew1 | refine below_set ?_ GE165.out) | exact HB.out)) hb); clear BK165; clear HB; have BK165 := n0_; have HB := n1_; clear n0_ n1_; (try clear hb); (try clear hb2); (try clear hk); (try clear hi)))
                                go_ret
                                exact ⟨by first | rfl | (simp only [show ∀ l_ : List UInt8, (l_ != ([] : List UInt8)) = !l_.isEmpty from (fun l_ => by cases l_ <;> rfl), show ∀ l_ : List UInt8, (l_ == ([] : List UInt8)) = l_.isEmpty from (fun l_ => by cases l_ <;> rfl)]; rfl) | (simp [errW_none, errW_some] <;> rfl) | (simp [*, errW_none, errW_some] <;> rfl), by repeat (first | (with_reducible first | exact HB.out | apply below_alloc | apply pw_below_drewN | apply below_drew1 | refine below_set ?_ GE165.out) | exact HB.out)⟩
                              · rw [if_neg c58] at H
                                have c58b0 : (((⟨#[45]⟩ : ByteArray) ++ t174).toList == ([] : List UInt8)) = false := beq_eq_false_iff_ne.mpr c58
                                have c58b1 : (((⟨#[45]⟩ : ByteArray) ++ t174).toList != ([] : List UInt8)) = true := bne_iff_ne.mpr c58
                                obtain rfl := Option.some.inj H
                                have hcz64_0 : wc.cell? ⟨gb165, 0, none⟩ = some (.string a2_0) := (blk_cell BK165.out 0).trans rfl
                                have hcz64_1 : wc.cell? ⟨gb165, 1, none⟩ = some (.int .i64 a2_1) := (blk_cell BK165.out 1).trans rfl
                                have hcz64_2 : wc.cell? ⟨gb165, 2, none⟩ = some (.int .i64 a2_2) := (blk_cell BK165.out 2).trans rfl
                                have hcz64_3 : wc.cell? ⟨gb165, 3, none⟩ = some (.string a2_3) := (blk_cell BK165.out 3).trans rfl
                                have hfz64_0 := blk_frozen BK165.out 0
                                have hfz64_1 := blk_frozen BK165.out 1
                                have hfz64_2 := blk_frozen BK165.out 2
                                have hfz64_3 := blk_frozen BK165.out 3
                                go_wp2_with (first | ((with_reducible refine gate_callee (f := 29) rfl ?_); refine goesL_ (some 61) rfl rfl Tryd.func29 (by kernel_rfl) rfl #[.int .i64 (wrap64 (-a2_2))] rfl (by (try simp only [List.map_toArray, List.map_cons, List.map_nil]); first | done | rfl | (simp only [List.length_drop, List.length_take]; rfl)) ?_; (with_reducible refine (names_ErrorName.calls (wrap64 (-a2_2)) t174 _ A50.out).mono ?_); rintro e w65 ⟨rfl, hb⟩; refine ⟨_, rfl, ?_⟩; have n0_ := Aside0.mk (blk_below (g := gb165) (o := .cells #[.string a2_0, .int .i64 a2_1, .int .i64 a2_2, .string a2_3] 51 (0, 0)) (by (with_reducible repeat (first | refine blk_drewN ?_ _ | refine blk_drew ?_ | refine blk_alloc ?_ _)); exact BK165.out) hb); have n1_ := Aside0.mk (below_step (by repeat (first | (with_reducible first | exact HB.out | apply below_alloc | apply pw_below_drewN | apply below_drew1 | refine below_set ?_ GE165.out) | exact HB.out)) hb); clear BK165; clear HB; have BK165 := n0_; have HB := n1_; clear n0_ n1_; (try clear hb); (try clear hb2); (try clear hk); (try clear hi)))
                                go_ret
                                exact ⟨by first | rfl | (simp only [show ∀ l_ : List UInt8, (l_ != ([] : List UInt8)) = !l_.isEmpty from (fun l_ => by cases l_ <;> rfl), show ∀ l_ : List UInt8, (l_ == ([] : List UInt8)) = l_.isEmpty from (fun l_ => by cases l_ <;> rfl)]; rfl) | (simp [errW_none, errW_some] <;> rfl) | (simp [*, errW_none, errW_some] <;> rfl), by repeat (first | (with_reducible first | exact HB.out | apply below_alloc | apply pw_below_drewN | apply below_drew1 | refine below_set ?_ GE165.out) | exact HB.out)⟩
                            · rw [if_neg c57] at H
                              exact absurd H (by simp)
                        · replace c49 := Bool.eq_false_iff.mpr c49
                          subst c49
                          have H1 : (if (⟨#[]⟩ : ByteArray).toList = ([] : List UInt8) then ((names_Plain.f a2_0 a2_1 a2_2 a2_3).bind fun t177 => (some t177)) else (some (⟨#[]⟩ : ByteArray))) = some r := by rw [if_neg (show ¬ (false = true) by decide)] at H; exact H
                          clear H
                          have H := H1
                          clear H1
                          by_cases c66 : (⟨#[]⟩ : ByteArray).toList = ([] : List UInt8)
                          · rw [if_pos c66] at H
                            have c66b0 : ((⟨#[]⟩ : ByteArray).toList == ([] : List UInt8)) = true := beq_iff_eq.mpr c66
                            have c66b1 : ((⟨#[]⟩ : ByteArray).toList != ([] : List UInt8)) = false := bne_eq_false_iff_eq.mpr c66
                            clear c66
                            replace H := Option.bind_eq_some_iff.mp H
                            obtain ⟨t177, A670, H⟩ := H
                            replace H : (some t177) = some r := H
                            have A67 := Aside0.mk A670
                            clear A670
                            obtain rfl := Option.some.inj H
                            have hcz68_0 : wc.cell? ⟨gb165, 0, none⟩ = some (.string a2_0) := (blk_cell BK165.out 0).trans rfl
                            have hcz68_1 : wc.cell? ⟨gb165, 1, none⟩ = some (.int .i64 a2_1) := (blk_cell BK165.out 1).trans rfl
                            have hcz68_2 : wc.cell? ⟨gb165, 2, none⟩ = some (.int .i64 a2_2) := (blk_cell BK165.out 2).trans rfl
                            have hcz68_3 : wc.cell? ⟨gb165, 3, none⟩ = some (.string a2_3) := (blk_cell BK165.out 3).trans rfl
                            have hfz68_0 := blk_frozen BK165.out 0
                            have hfz68_1 := blk_frozen BK165.out 1
                            have hfz68_2 := blk_frozen BK165.out 2
                            have hfz68_3 := blk_frozen BK165.out 3
                            go_wp2_with (first | ((with_reducible refine gate_callee (f := 28) rfl ?_); refine goesL_ (some 79) rfl rfl Tryd.func28 (by kernel_rfl) rfl #[.agg #[.string a2_0, .int .i64 a2_1, .int .i64 a2_2, .string a2_3]] rfl (by (try simp only [List.map_toArray, List.map_cons, List.map_nil]); first | done | rfl | (simp only [List.length_drop, List.length_take]; rfl)) ?_; (with_reducible refine (names_Plain.calls a2_0 a2_1 a2_2 a2_3 t177 _ A67.out).mono ?_); rintro e w69 ⟨rfl, hb⟩; refine ⟨_, rfl, ?_⟩; have n0_ := Aside0.mk (blk_below (g := gb165) (o := .cells #[.string a2_0, .int .i64 a2_1, .int .i64 a2_2, .string a2_3] 51 (0, 0)) (by (with_reducible repeat (first | refine blk_drewN ?_ _ | refine blk_drew ?_ | refine blk_alloc ?_ _)); exact BK165.out) hb); have n1_ := Aside0.mk (below_step (by repeat (first | (with_reducible first | exact HB.out | apply below_alloc | apply pw_below_drewN | apply below_drew1 | refine below_set ?_ GE165.out) | exact HB.out)) hb); clear BK165; clear HB; have BK165 := n0_; have HB := n1_; clear n0_ n1_; (try clear hb); (try clear hb2); (try clear hk); (try clear hi)))
                            go_ret
                            exact ⟨by first | rfl | (simp only [show ∀ l_ : List UInt8, (l_ != ([] : List UInt8)) = !l_.isEmpty from (fun l_ => by cases l_ <;> rfl), show ∀ l_ : List UInt8, (l_ == ([] : List UInt8)) = l_.isEmpty from (fun l_ => by cases l_ <;> rfl)]; rfl) | (simp [errW_none, errW_some] <;> rfl) | (simp [*, errW_none, errW_some] <;> rfl), by repeat (first | (with_reducible first | exact HB.out | apply below_alloc | apply pw_below_drewN | apply below_drew1 | refine below_set ?_ GE165.out) | exact HB.out)⟩
                          · exact (c66 (by first | rfl | decide +kernel | simp)).elim
                  · rw [if_neg c44] at H
                    have c44b0 : (a2_0.toList == ([101, 120, 105, 116] : List UInt8)) = false := beq_eq_false_iff_ne.mpr c44
                    have c44b1 : (a2_0.toList != ([101, 120, 105, 116] : List UInt8)) = true := bne_iff_ne.mpr c44
                    by_cases c70 : a2_0.toList = ([109, 111, 100, 101] : List UInt8)
                    · rw [if_pos c70] at H
                      have c70b0 : (a2_0.toList == ([109, 111, 100, 101] : List UInt8)) = true := beq_iff_eq.mpr c70
                      have c70b1 : (a2_0.toList != ([109, 111, 100, 101] : List UInt8)) = false := bne_eq_false_iff_eq.mpr c70
                      clear c70
                      replace H := Option.bind_eq_some_iff.mp H
                      obtain ⟨t178, A710, H⟩ := H
                      replace H : (if t178.toList = ([] : List UInt8) then ((names_Plain.f a2_0 a2_1 a2_2 a2_3).bind fun t179 => (some t179)) else (some t178)) = some r := H
                      have A71 := Aside0.mk A710
                      clear A710
                      by_cases c72 : t178.toList = ([] : List UInt8)
                      · rw [if_pos c72] at H
                        have c72b0 : (t178.toList == ([] : List UInt8)) = true := beq_iff_eq.mpr c72
                        have c72b1 : (t178.toList != ([] : List UInt8)) = false := bne_eq_false_iff_eq.mpr c72
                        clear c72
                        replace H := Option.bind_eq_some_iff.mp H
                        obtain ⟨t179, A730, H⟩ := H
                        replace H : (some t179) = some r := H
                        have A73 := Aside0.mk A730
                        clear A730
                        obtain rfl := Option.some.inj H
                        have hcz74_0 : wc.cell? ⟨gb165, 0, none⟩ = some (.string a2_0) := (blk_cell BK165.out 0).trans rfl
                        have hcz74_1 : wc.cell? ⟨gb165, 1, none⟩ = some (.int .i64 a2_1) := (blk_cell BK165.out 1).trans rfl
                        have hcz74_2 : wc.cell? ⟨gb165, 2, none⟩ = some (.int .i64 a2_2) := (blk_cell BK165.out 2).trans rfl
                        have hcz74_3 : wc.cell? ⟨gb165, 3, none⟩ = some (.string a2_3) := (blk_cell BK165.out 3).trans rfl
                        have hfz74_0 := blk_frozen BK165.out 0
                        have hfz74_1 := blk_frozen BK165.out 1
                        have hfz74_2 := blk_frozen BK165.out 2
                        have hfz74_3 := blk_frozen BK165.out 3
                        go_wp2_with (first | ((with_reducible refine gate_callee (f := 30) rfl ?_); refine goesL_ (some 70) rfl rfl Tryd.func30 (by kernel_rfl) rfl #[.int .i64 a2_2] rfl (by (try simp only [List.map_toArray, List.map_cons, List.map_nil]); first | done | rfl | (simp only [List.length_drop, List.length_take]; rfl)) ?_; (with_reducible refine (access_Format.calls a2_2 t178 _ A71.out).mono ?_); rintro e w75 ⟨rfl, hb⟩; refine ⟨_, rfl, ?_⟩; have n0_ := Aside0.mk (blk_below (g := gb165) (o := .cells #[.string a2_0, .int .i64 a2_1, .int .i64 a2_2, .string a2_3] 51 (0, 0)) (by (with_reducible repeat (first | refine blk_drewN ?_ _ | refine blk_drew ?_ | refine blk_alloc ?_ _)); exact BK165.out) hb); have n1_ := Aside0.mk (below_step (by repeat (first | (with_reducible first | exact HB.out | apply below_alloc | apply pw_below_drewN | apply below_drew1 | refine below_set ?_ GE165.out) | exact HB.out)) hb); clear BK165; clear HB; have BK165 := n0_; have HB := n1_; clear n0_ n1_; (try clear hb); (try clear hb2); (try clear hk); (try clear hi); have hcz76_0 : w75.cell? ⟨gb165, 0, none⟩ = some (.string a2_0) := (blk_cell BK165.out 0).trans rfl; have hcz76_1 : w75.cell? ⟨gb165, 1, none⟩ = some (.int .i64 a2_1) := (blk_cell BK165.out 1).trans rfl; have hcz76_2 : w75.cell? ⟨gb165, 2, none⟩ = some (.int .i64 a2_2) := (blk_cell BK165.out 2).trans rfl; have hcz76_3 : w75.cell? ⟨gb165, 3, none⟩ = some (.string a2_3) := (blk_cell BK165.out 3).trans rfl; have hfz76_0 := blk_frozen BK165.out 0; have hfz76_1 := blk_frozen BK165.out 1; have hfz76_2 := blk_frozen BK165.out 2; have hfz76_3 := blk_frozen BK165.out 3) | ((with_reducible refine gate_callee (f := 28) rfl ?_); refine goesL_ (some 79) rfl rfl Tryd.func28 (by kernel_rfl) rfl #[.agg #[.string a2_0, .int .i64 a2_1, .int .i64 a2_2, .string a2_3]] rfl (by (try simp only [List.map_toArray, List.map_cons, List.map_nil]); first | done | rfl | (simp only [List.length_drop, List.length_take]; rfl)) ?_; (with_reducible refine (names_Plain.calls a2_0 a2_1 a2_2 a2_3 t179 _ A73.out).mono ?_); rintro e w77 ⟨rfl, hb⟩; refine ⟨_, rfl, ?_⟩; have n0_ := Aside0.mk (blk_below (g := gb165) (o := .cells #[.string a2_0, .int .i64 a2_1, .int .i64 a2_2, .string a2_3] 51 (0, 0)) (by (with_reducible repeat (first | refine blk_drewN ?_ _ | refine blk_drew ?_ | refine blk_alloc ?_ _)); exact BK165.out) hb); have n1_ := Aside0.mk (below_step (by repeat (first | (with_reducible first | exact HB.out | apply below_alloc | apply pw_below_drewN | apply below_drew1 | refine below_set ?_ GE165.out) | exact HB.out)) hb); clear BK165; clear HB; have BK165 := n0_; have HB := n1_; clear n0_ n1_; (try clear hb); (try clear hb2); (try clear hk); (try clear hi)))
                        go_ret
                        exact ⟨by first | rfl | (simp only [show ∀ l_ : List UInt8, (l_ != ([] : List UInt8)) = !l_.isEmpty from (fun l_ => by cases l_ <;> rfl), show ∀ l_ : List UInt8, (l_ == ([] : List UInt8)) = l_.isEmpty from (fun l_ => by cases l_ <;> rfl)]; rfl) | (simp [errW_none, errW_some] <;> rfl) | (simp [*, errW_none, errW_some] <;> rfl), by repeat (first | (with_reducible first | exact HB.out | apply below_alloc | apply pw_below_drewN | apply below_drew1 | refine below_set ?_ GE165.out) | exact HB.out)⟩
                      · rw [if_neg c72] at H
                        have c72b0 : (t178.toList == ([] : List UInt8)) = false := beq_eq_false_iff_ne.mpr c72
                        have c72b1 : (t178.toList != ([] : List UInt8)) = true := bne_iff_ne.mpr c72
                        obtain rfl := Option.some.inj H
                        have hcz78_0 : wc.cell? ⟨gb165, 0, none⟩ = some (.string a2_0) := (blk_cell BK165.out 0).trans rfl
                        have hcz78_1 : wc.cell? ⟨gb165, 1, none⟩ = some (.int .i64 a2_1) := (blk_cell BK165.out 1).trans rfl
                        have hcz78_2 : wc.cell? ⟨gb165, 2, none⟩ = some (.int .i64 a2_2) := (blk_cell BK165.out 2).trans rfl
                        have hcz78_3 : wc.cell? ⟨gb165, 3, none⟩ = some (.string a2_3) := (blk_cell BK165.out 3).trans rfl
                        have hfz78_0 := blk_frozen BK165.out 0
                        have hfz78_1 := blk_frozen BK165.out 1
                        have hfz78_2 := blk_frozen BK165.out 2
                        have hfz78_3 := blk_frozen BK165.out 3
                        go_wp2_with (first | ((with_reducible refine gate_callee (f := 30) rfl ?_); refine goesL_ (some 70) rfl rfl Tryd.func30 (by kernel_rfl) rfl #[.int .i64 a2_2] rfl (by (try simp only [List.map_toArray, List.map_cons, List.map_nil]); first | done | rfl | (simp only [List.length_drop, List.length_take]; rfl)) ?_; (with_reducible refine (access_Format.calls a2_2 t178 _ A71.out).mono ?_); rintro e w79 ⟨rfl, hb⟩; refine ⟨_, rfl, ?_⟩; have n0_ := Aside0.mk (blk_below (g := gb165) (o := .cells #[.string a2_0, .int .i64 a2_1, .int .i64 a2_2, .string a2_3] 51 (0, 0)) (by (with_reducible repeat (first | refine blk_drewN ?_ _ | refine blk_drew ?_ | refine blk_alloc ?_ _)); exact BK165.out) hb); have n1_ := Aside0.mk (below_step (by repeat (first | (with_reducible first | exact HB.out | apply below_alloc | apply pw_below_drewN | apply below_drew1 | refine below_set ?_ GE165.out) | exact HB.out)) hb); clear BK165; clear HB; have BK165 := n0_; have HB := n1_; clear n0_ n1_; (try clear hb); (try clear hb2); (try clear hk); (try clear hi)))
                        go_ret
                        exact ⟨by first | rfl | (simp only [show ∀ l_ : List UInt8, (l_ != ([] : List UInt8)) = !l_.isEmpty from (fun l_ => by cases l_ <;> rfl), show ∀ l_ : List UInt8, (l_ == ([] : List UInt8)) = l_.isEmpty from (fun l_ => by cases l_ <;> rfl)]; rfl) | (simp [errW_none, errW_some] <;> rfl) | (simp [*, errW_none, errW_some] <;> rfl), by repeat (first | (with_reducible first | exact HB.out | apply below_alloc | apply pw_below_drewN | apply below_drew1 | refine below_set ?_ GE165.out) | exact HB.out)⟩
                    · rw [if_neg c70] at H
                      have c70b0 : (a2_0.toList == ([109, 111, 100, 101] : List UInt8)) = false := beq_eq_false_iff_ne.mpr c70
                      have c70b1 : (a2_0.toList != ([109, 111, 100, 101] : List UInt8)) = true := bne_iff_ne.mpr c70
                      by_cases c80 : a2_0.toList = ([112, 101, 114, 109] : List UInt8)
                      · rw [if_pos c80] at H
                        have c80b0 : (a2_0.toList == ([112, 101, 114, 109] : List UInt8)) = true := beq_iff_eq.mpr c80
                        have c80b1 : (a2_0.toList != ([112, 101, 114, 109] : List UInt8)) = false := bne_eq_false_iff_eq.mpr c80
                        clear c80
                        replace H := Option.bind_eq_some_iff.mp H
                        obtain ⟨t180, A810, H⟩ := H
                        replace H : (if t180.toList = ([] : List UInt8) then ((names_Plain.f a2_0 a2_1 a2_2 a2_3).bind fun t181 => (some t181)) else (some t180)) = some r := H
                        have A81 := Aside0.mk A810
                        clear A810
                        by_cases c82 : t180.toList = ([] : List UInt8)
                        · rw [if_pos c82] at H
                          have c82b0 : (t180.toList == ([] : List UInt8)) = true := beq_iff_eq.mpr c82
                          have c82b1 : (t180.toList != ([] : List UInt8)) = false := bne_eq_false_iff_eq.mpr c82
                          clear c82
                          replace H := Option.bind_eq_some_iff.mp H
                          obtain ⟨t181, A830, H⟩ := H
                          replace H : (some t181) = some r := H
                          have A83 := Aside0.mk A830
                          clear A830
                          obtain rfl := Option.some.inj H
                          have hcz84_0 : wc.cell? ⟨gb165, 0, none⟩ = some (.string a2_0) := (blk_cell BK165.out 0).trans rfl
                          have hcz84_1 : wc.cell? ⟨gb165, 1, none⟩ = some (.int .i64 a2_1) := (blk_cell BK165.out 1).trans rfl
                          have hcz84_2 : wc.cell? ⟨gb165, 2, none⟩ = some (.int .i64 a2_2) := (blk_cell BK165.out 2).trans rfl
                          have hcz84_3 : wc.cell? ⟨gb165, 3, none⟩ = some (.string a2_3) := (blk_cell BK165.out 3).trans rfl
                          have hfz84_0 := blk_frozen BK165.out 0
                          have hfz84_1 := blk_frozen BK165.out 1
                          have hfz84_2 := blk_frozen BK165.out 2
                          have hfz84_3 := blk_frozen BK165.out 3
                          go_wp2_with (first | ((with_reducible refine gate_callee (f := 31) rfl ?_); refine goesL_ (some 75) rfl rfl Tryd.func31 (by kernel_rfl) rfl #[.int .i64 a2_2] rfl (by (try simp only [List.map_toArray, List.map_cons, List.map_nil]); first | done | rfl | (simp only [List.length_drop, List.length_take]; rfl)) ?_; (with_reducible refine (names_perms.calls a2_2 t180 _ A81.out).mono ?_); rintro e w85 ⟨rfl, hb⟩; refine ⟨_, rfl, ?_⟩; have n0_ := Aside0.mk (blk_below (g := gb165) (o := .cells #[.string a2_0, .int .i64 a2_1, .int .i64 a2_2, .string a2_3] 51 (0, 0)) (by (with_reducible repeat (first | refine blk_drewN ?_ _ | refine blk_drew ?_ | refine blk_alloc ?_ _)); exact BK165.out) hb); have n1_ := Aside0.mk (below_step (by repeat (first | (with_reducible first | exact HB.out | apply below_alloc | apply pw_below_drewN | apply below_drew1 | refine below_set ?_ GE165.out) | exact HB.out)) hb); clear BK165; clear HB; have BK165 := n0_; have HB := n1_; clear n0_ n1_; (try clear hb); (try clear hb2); (try clear hk); (try clear hi); have hcz86_0 : w85.cell? ⟨gb165, 0, none⟩ = some (.string a2_0) := (blk_cell BK165.out 0).trans rfl; have hcz86_1 : w85.cell? ⟨gb165, 1, none⟩ = some (.int .i64 a2_1) := (blk_cell BK165.out 1).trans rfl; have hcz86_2 : w85.cell? ⟨gb165, 2, none⟩ = some (.int .i64 a2_2) := (blk_cell BK165.out 2).trans rfl; have hcz86_3 : w85.cell? ⟨gb165, 3, none⟩ = some (.string a2_3) := (blk_cell BK165.out 3).trans rfl; have hfz86_0 := blk_frozen BK165.out 0; have hfz86_1 := blk_frozen BK165.out 1; have hfz86_2 := blk_frozen BK165.out 2; have hfz86_3 := blk_frozen BK165.out 3) | ((with_reducible refine gate_callee (f := 28) rfl ?_); refine goesL_ (some 79) rfl rfl Tryd.func28 (by kernel_rfl) rfl #[.agg #[.string a2_0, .int .i64 a2_1, .int .i64 a2_2, .string a2_3]] rfl (by (try simp only [List.map_toArray, List.map_cons, List.map_nil]); first | done | rfl | (simp only [List.length_drop, List.length_take]; rfl)) ?_; (with_reducible refine (names_Plain.calls a2_0 a2_1 a2_2 a2_3 t181 _ A83.out).mono ?_); rintro e w87 ⟨rfl, hb⟩; refine ⟨_, rfl, ?_⟩; have n0_ := Aside0.mk (blk_below (g := gb165) (o := .cells #[.string a2_0, .int .i64 a2_1, .int .i64 a2_2, .string a2_3] 51 (0, 0)) (by (with_reducible repeat (first | refine blk_drewN ?_ _ | refine blk_drew ?_ | refine blk_alloc ?_ _)); exact BK165.out) hb); have n1_ := Aside0.mk (below_step (by repeat (first | (with_reducible first | exact HB.out | apply below_alloc | apply pw_below_drewN | apply below_drew1 | refine below_set ?_ GE165.out) | exact HB.out)) hb); clear BK165; clear HB; have BK165 := n0_; have HB := n1_; clear n0_ n1_; (try clear hb); (try clear hb2); (try clear hk); (try clear hi)))
                          go_ret
                          exact ⟨by first | rfl | (simp only [show ∀ l_ : List UInt8, (l_ != ([] : List UInt8)) = !l_.isEmpty from (fun l_ => by cases l_ <;> rfl), show ∀ l_ : List UInt8, (l_ == ([] : List UInt8)) = l_.isEmpty from (fun l_ => by cases l_ <;> rfl)]; rfl) | (simp [errW_none, errW_some] <;> rfl) | (simp [*, errW_none, errW_some] <;> rfl), by repeat (first | (with_reducible first | exact HB.out | apply below_alloc | apply pw_below_drewN | apply below_drew1 | refine below_set ?_ GE165.out) | exact HB.out)⟩
                        · rw [if_neg c82] at H
                          have c82b0 : (t180.toList == ([] : List UInt8)) = false := beq_eq_false_iff_ne.mpr c82
                          have c82b1 : (t180.toList != ([] : List UInt8)) = true := bne_iff_ne.mpr c82
                          obtain rfl := Option.some.inj H
                          have hcz88_0 : wc.cell? ⟨gb165, 0, none⟩ = some (.string a2_0) := (blk_cell BK165.out 0).trans rfl
                          have hcz88_1 : wc.cell? ⟨gb165, 1, none⟩ = some (.int .i64 a2_1) := (blk_cell BK165.out 1).trans rfl
                          have hcz88_2 : wc.cell? ⟨gb165, 2, none⟩ = some (.int .i64 a2_2) := (blk_cell BK165.out 2).trans rfl
                          have hcz88_3 : wc.cell? ⟨gb165, 3, none⟩ = some (.string a2_3) := (blk_cell BK165.out 3).trans rfl
                          have hfz88_0 := blk_frozen BK165.out 0
                          have hfz88_1 := blk_frozen BK165.out 1
                          have hfz88_2 := blk_frozen BK165.out 2
                          have hfz88_3 := blk_frozen BK165.out 3
                          go_wp2_with (first | ((with_reducible refine gate_callee (f := 31) rfl ?_); refine goesL_ (some 75) rfl rfl Tryd.func31 (by kernel_rfl) rfl #[.int .i64 a2_2] rfl (by (try simp only [List.map_toArray, List.map_cons, List.map_nil]); first | done | rfl | (simp only [List.length_drop, List.length_take]; rfl)) ?_; (with_reducible refine (names_perms.calls a2_2 t180 _ A81.out).mono ?_); rintro e w89 ⟨rfl, hb⟩; refine ⟨_, rfl, ?_⟩; have n0_ := Aside0.mk (blk_below (g := gb165) (o := .cells #[.string a2_0, .int .i64 a2_1, .int .i64 a2_2, .string a2_3] 51 (0, 0)) (by (with_reducible repeat (first | refine blk_drewN ?_ _ | refine blk_drew ?_ | refine blk_alloc ?_ _)); exact BK165.out) hb); have n1_ := Aside0.mk (below_step (by repeat (first | (with_reducible first | exact HB.out | apply below_alloc | apply pw_below_drewN | apply below_drew1 | refine below_set ?_ GE165.out) | exact HB.out)) hb); clear BK165; clear HB; have BK165 := n0_; have HB := n1_; clear n0_ n1_; (try clear hb); (try clear hb2); (try clear hk); (try clear hi)))
                          go_ret
                          exact ⟨by first | rfl | (simp only [show ∀ l_ : List UInt8, (l_ != ([] : List UInt8)) = !l_.isEmpty from (fun l_ => by cases l_ <;> rfl), show ∀ l_ : List UInt8, (l_ == ([] : List UInt8)) = l_.isEmpty from (fun l_ => by cases l_ <;> rfl)]; rfl) | (simp [errW_none, errW_some] <;> rfl) | (simp [*, errW_none, errW_some] <;> rfl), by repeat (first | (with_reducible first | exact HB.out | apply below_alloc | apply pw_below_drewN | apply below_drew1 | refine below_set ?_ GE165.out) | exact HB.out)⟩
                      · rw [if_neg c80] at H
                        have c80b0 : (a2_0.toList == ([112, 101, 114, 109] : List UInt8)) = false := beq_eq_false_iff_ne.mpr c80
                        have c80b1 : (a2_0.toList != ([112, 101, 114, 109] : List UInt8)) = true := bne_iff_ne.mpr c80
                        by_cases c90 : (⟨#[]⟩ : ByteArray).toList = ([] : List UInt8)
                        · rw [if_pos c90] at H
                          have c90b0 : ((⟨#[]⟩ : ByteArray).toList == ([] : List UInt8)) = true := beq_iff_eq.mpr c90
                          have c90b1 : ((⟨#[]⟩ : ByteArray).toList != ([] : List UInt8)) = false := bne_eq_false_iff_eq.mpr c90
                          clear c90
                          replace H := Option.bind_eq_some_iff.mp H
                          obtain ⟨t182, A910, H⟩ := H
                          replace H : (some t182) = some r := H
                          have A91 := Aside0.mk A910
                          clear A910
                          obtain rfl := Option.some.inj H
                          have hcz92_0 : wc.cell? ⟨gb165, 0, none⟩ = some (.string a2_0) := (blk_cell BK165.out 0).trans rfl
                          have hcz92_1 : wc.cell? ⟨gb165, 1, none⟩ = some (.int .i64 a2_1) := (blk_cell BK165.out 1).trans rfl
                          have hcz92_2 : wc.cell? ⟨gb165, 2, none⟩ = some (.int .i64 a2_2) := (blk_cell BK165.out 2).trans rfl
                          have hcz92_3 : wc.cell? ⟨gb165, 3, none⟩ = some (.string a2_3) := (blk_cell BK165.out 3).trans rfl
                          have hfz92_0 := blk_frozen BK165.out 0
                          have hfz92_1 := blk_frozen BK165.out 1
                          have hfz92_2 := blk_frozen BK165.out 2
                          have hfz92_3 := blk_frozen BK165.out 3
                          go_wp2_with (first | ((with_reducible refine gate_callee (f := 28) rfl ?_); refine goesL_ (some 79) rfl rfl Tryd.func28 (by kernel_rfl) rfl #[.agg #[.string a2_0, .int .i64 a2_1, .int .i64 a2_2, .string a2_3]] rfl (by (try simp only [List.map_toArray, List.map_cons, List.map_nil]); first | done | rfl | (simp only [List.length_drop, List.length_take]; rfl)) ?_; (with_reducible refine (names_Plain.calls a2_0 a2_1 a2_2 a2_3 t182 _ A91.out).mono ?_); rintro e w93 ⟨rfl, hb⟩; refine ⟨_, rfl, ?_⟩; have n0_ := Aside0.mk (blk_below (g := gb165) (o := .cells #[.string a2_0, .int .i64 a2_1, .int .i64 a2_2, .string a2_3] 51 (0, 0)) (by (with_reducible repeat (first | refine blk_drewN ?_ _ | refine blk_drew ?_ | refine blk_alloc ?_ _)); exact BK165.out) hb); have n1_ := Aside0.mk (below_step (by repeat (first | (with_reducible first | exact HB.out | apply below_alloc | apply pw_below_drewN | apply below_drew1 | refine below_set ?_ GE165.out) | exact HB.out)) hb); clear BK165; clear HB; have BK165 := n0_; have HB := n1_; clear n0_ n1_; (try clear hb); (try clear hb2); (try clear hk); (try clear hi)))
                          go_ret
                          exact ⟨by first | rfl | (simp only [show ∀ l_ : List UInt8, (l_ != ([] : List UInt8)) = !l_.isEmpty from (fun l_ => by cases l_ <;> rfl), show ∀ l_ : List UInt8, (l_ == ([] : List UInt8)) = l_.isEmpty from (fun l_ => by cases l_ <;> rfl)]; rfl) | (simp [errW_none, errW_some] <;> rfl) | (simp [*, errW_none, errW_some] <;> rfl), by repeat (first | (with_reducible first | exact HB.out | apply below_alloc | apply pw_below_drewN | apply below_drew1 | refine below_set ?_ GE165.out) | exact HB.out)⟩
                        · exact (c90 (by first | rfl | decide +kernel | simp)).elim
  · rw [if_neg c4] at H
    have c4b0 : (a2_1 == 1) = false := beq_eq_false_iff_ne.mpr c4
    have c4b1 : (a2_1 != 1) = true := bne_iff_ne.mpr c4
    replace H := Option.bind_eq_some_iff.mp H
    obtain ⟨t166, A940, H⟩ := H
    replace H : (some t166) = some r := H
    have A94 := Aside0.mk A940
    clear A940
    obtain rfl := Option.some.inj H
    go_enter Tryd.func22, Tryd.ntmps22
    go_wp2_with (first | ((with_reducible refine gate_dst (N := 5) rfl ?_); refine box_event ?hg (N := 5) ?hd (cs := #[.string a2_0, .int .i64 a2_1, .int .i64 a2_2, .string a2_3]) (t := 51) ?hr ?_; (case hd => rfl); (case hg => rfl); (case hr => first | (go_simp; done) | (go_simp; rfl)); intro gb165 hg w95 hbox hb; have n0_ := Aside0.mk (below_step (by repeat (first | (with_reducible first | exact HB.out | apply below_alloc | apply pw_below_drewN | apply below_drew1) | exact HB.out)) hb); have n1_ := Aside0.mk (hbox); have n2_ := Aside0.mk ((by rw [hg]; exact (below_size (by repeat (first | (with_reducible first | exact HB.out | apply below_alloc | apply pw_below_drewN | apply below_drew1) | exact HB.out))) : w.heap.size ≤ gb165)); have n3_ := Aside0.mk ((by rw [hg]; exact (below_size (by repeat (first | (with_reducible first | exact HB.out | apply below_alloc | apply pw_below_drewN | apply below_drew1) | exact HB.out))) : w.heap.size ≤ gb165)); clear HB; have HB := n0_; have BK165 := n1_; have GW165 := n2_; have GE165 := n3_; clear n0_ n1_ n2_ n3_; clear hb hbox hg; have hcz96_0 : w95.cell? ⟨gb165, 0, none⟩ = some (.string a2_0) := (blk_cell BK165.out 0).trans rfl; have hcz96_1 : w95.cell? ⟨gb165, 1, none⟩ = some (.int .i64 a2_1) := (blk_cell BK165.out 1).trans rfl; have hcz96_2 : w95.cell? ⟨gb165, 2, none⟩ = some (.int .i64 a2_2) := (blk_cell BK165.out 2).trans rfl; have hcz96_3 : w95.cell? ⟨gb165, 3, none⟩ = some (.string a2_3) := (blk_cell BK165.out 3).trans rfl; have hfz96_0 := blk_frozen BK165.out 0; have hfz96_1 := blk_frozen BK165.out 1; have hfz96_2 := blk_frozen BK165.out 2; have hfz96_3 := blk_frozen BK165.out 3) | ((with_reducible refine gate_callee (f := 28) rfl ?_); refine goesL_ (some 12) rfl rfl Tryd.func28 (by kernel_rfl) rfl #[.agg #[.string a2_0, .int .i64 a2_1, .int .i64 a2_2, .string a2_3]] rfl (by (try simp only [List.map_toArray, List.map_cons, List.map_nil]); first | done | rfl | (simp only [List.length_drop, List.length_take]; rfl)) ?_; (with_reducible refine (names_Plain.calls a2_0 a2_1 a2_2 a2_3 t166 _ A94.out).mono ?_); rintro e w97 ⟨rfl, hb⟩; refine ⟨_, rfl, ?_⟩; have n0_ := Aside0.mk (blk_below (g := gb165) (o := .cells #[.string a2_0, .int .i64 a2_1, .int .i64 a2_2, .string a2_3] 51 (0, 0)) (by (with_reducible repeat (first | refine blk_drewN ?_ _ | refine blk_drew ?_ | refine blk_alloc ?_ _)); exact BK165.out) hb); have n1_ := Aside0.mk (below_step (by repeat (first | (with_reducible first | exact HB.out | apply below_alloc | apply pw_below_drewN | apply below_drew1 | refine below_set ?_ GE165.out) | exact HB.out)) hb); clear BK165; clear HB; have BK165 := n0_; have HB := n1_; clear n0_ n1_; (try clear hb); (try clear hb2); (try clear hk); (try clear hi)))
    go_ret
    exact ⟨by first | rfl | (simp only [show ∀ l_ : List UInt8, (l_ != ([] : List UInt8)) = !l_.isEmpty from (fun l_ => by cases l_ <;> rfl), show ∀ l_ : List UInt8, (l_ == ([] : List UInt8)) = l_.isEmpty from (fun l_ => by cases l_ <;> rfl)]; rfl) | (simp [errW_none, errW_some] <;> rfl) | (simp [*, errW_none, errW_some] <;> rfl), by repeat (first | (with_reducible first | exact HB.out | apply below_alloc | apply pw_below_drewN | apply below_drew1 | refine below_set ?_ GE165.out) | exact HB.out)⟩

end Go.Proofs.YtkhdejefolegpaaDoor.Q
