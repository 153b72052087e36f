-- Printed by px.py: a changed copy of the kit's printer, with contracts of this session's own in it. Not trusted: Lean checks it.
import Derived.Test.YtjgehecnamadcaaDoorQx0
import Derived.Test.YtjgehecnamadcaaDoorQx1
import Derived.Test.YtjgehecnamadcaaDoorQx5
namespace Go.Proofs.YtjgehecnamadcaaDoor.Q
open Go.RowKit Go.Proofs.YtjgehecnamadcaaDoorW.PrintWords Go.Proofs.YtjgehecnamadcaaDoorW.PrintLast Go.Proofs.YtjgehecnamadcaaDoorW.PrintMore
attribute [local go_sem] max2_int min2_int max_two min_two max_three min_three max_four min_four   -- for this text's walks alone
set_option linter.unusedVariables false
set_option linter.unusedSimpArgs false

theorem qrQx6_0 {p : Prop} (h : p := by repeat (first | (with_reducible first | exact HB.out | apply below_alloc | apply pw_below_drewN | apply below_drew1 | refine below_set ?_ GE493.out) | exact HB.out)) : p := h
theorem qrQx6_1 {p : Prop} (h : p := by repeat (first | (with_reducible first | exact HB.out | apply below_alloc | apply pw_below_drewN | apply below_drew1) | exact HB.out)) : p := h
theorem qrQx6_2 {p : Prop} (h : p := by (try simp only [List.map_toArray, List.map_cons, List.map_nil]); first | done | rfl | (simp only [List.length_drop, List.length_take]; rfl)) : p := h
theorem qrQx6_3 {p : Prop} (h : p := by (with_reducible repeat (first | refine blk_drewN ?_ _ | refine blk_drew ?_ | refine blk_alloc ?_ _)); exact BK493.out) : p := h
theorem qrQx6_4 {p : Prop} (h : p := by first | (with_reducible assumption) | assumption) : p := h
theorem qrQx6_5 {p : Prop} (h : p := by (with_reducible repeat (first | apply Kd.N_alloc | apply Kd.N_drewN | apply Kd.N_drew)); exact HO509.out) : p := h
/-! ### strconv_Itoa: function 31 -/
def strconv_Itoa.f (a0 : Int) : Option ByteArray := if -9223372036854775808 ≤ a0 then (if a0 ≤ 9223372036854775807 then some ⟨(Lib.itoa a0).toArray⟩ else none) else none
theorem below_growN (w : World) (k : Nat) (os : Array Obj) : Below w.heap.size w (Go.Sort.grow (w.drewN k) os) := by
  refine ⟨rfl, rfl, rfl, by simp [Go.Sort.grow, World.drewN], fun j hj => ?_⟩
  show (w.heap ++ os)[j]? = _
  rw [Array.getElem?_append_left hj]
theorem strconv_Itoa.calls (a0 : Int) (r : ByteArray) (w : World) (hT : TabOk w) (h : strconv_Itoa.f a0 = some r) :
    Calls Tryd.prog 31 #[.int .i64 a0] w fun e w' => e = .returned (.string r) ∧ Below w.heap.size w w' := by
  unfold strconv_Itoa.f at h
  by_cases h0 : -9223372036854775808 ≤ a0
  · rw [if_pos h0] at h
    by_cases h1 : a0 ≤ 9223372036854775807
    · rw [if_pos h1] at h
      injection h with h
      subst h
      refine (Tryd.strconv_Itoa a0 h0 h1 w hT).mono ?_
      rintro e w' ⟨rfl, k, os, rfl⟩
      exact ⟨rfl, below_growN w k os⟩
    · rw [if_neg h1] at h; cases h
  · rw [if_neg h0] at h; cases h

/-! ### sessions_Format: function 14 -/
def sessions_Format.base (a0_0 a0_1 a0_2 a0_3 a0_4 a0_5 : Int) : ByteArray := ((((((((((((⟨#[115, 101, 115, 115, 105, 111, 110, 32]⟩ : ByteArray) ++ (⟨(Lib.itoa a0_0).toArray⟩ : ByteArray)) ++ (⟨#[32, 97, 117, 105, 100, 32]⟩ : ByteArray)) ++ (⟨(Lib.itoa a0_1).toArray⟩ : ByteArray)) ++ (⟨#[32, 101, 118, 101, 110, 116, 115, 32]⟩ : ByteArray)) ++ (⟨(Lib.itoa a0_4).toArray⟩ : ByteArray)) ++ (⟨#[32, 102, 97, 105, 108, 101, 100, 32]⟩ : ByteArray)) ++ (⟨(Lib.itoa a0_5).toArray⟩ : ByteArray)) ++ (⟨#[32, 102, 114, 111, 109, 32]⟩ : ByteArray)) ++ (⟨(Lib.itoa a0_2).toArray⟩ : ByteArray)) ++ (⟨#[32, 116, 111, 32]⟩ : ByteArray)) ++ (⟨(Lib.itoa a0_3).toArray⟩ : ByteArray))
def sessions_Format.line (a0_0 : Int) (a0_1 : Int) (a0_2 : Int) (a0_3 : Int) (a0_4 : Int) (a0_5 : Int) (a0_6 : Int) : ByteArray := if a0_6 = 1 then sessions_Format.base a0_0 a0_1 a0_2 a0_3 a0_4 a0_5 ++ (⟨#[32, 111, 112, 101, 110]⟩ : ByteArray) else if a0_6 = 2 then sessions_Format.base a0_0 a0_1 a0_2 a0_3 a0_4 a0_5 ++ (⟨#[32, 99, 108, 111, 115, 101, 100]⟩ : ByteArray) else if a0_6 = 3 then sessions_Format.base a0_0 a0_1 a0_2 a0_3 a0_4 a0_5 ++ (⟨#[32, 99, 117, 116]⟩ : ByteArray) else sessions_Format.base a0_0 a0_1 a0_2 a0_3 a0_4 a0_5
def sessions_Format.i64 (x : Int) : Bool := decide (-9223372036854775808 ≤ x) && decide (x ≤ 9223372036854775807)
def sessions_Format.f (a0_0 : Int) (a0_1 : Int) (a0_2 : Int) (a0_3 : Int) (a0_4 : Int) (a0_5 : Int) (a0_6 : Int) (l0_7 : List Int) (l0_8 : List Int) : Option (ByteArray) := if (sessions_Format.i64 a0_0 && sessions_Format.i64 a0_1 && sessions_Format.i64 a0_4 && sessions_Format.i64 a0_5 && sessions_Format.i64 a0_2 && sessions_Format.i64 a0_3) = true then some (sessions_Format.line a0_0 a0_1 a0_2 a0_3 a0_4 a0_5 a0_6) else none
theorem sessions_Format.itoa {x : Int} (h : sessions_Format.i64 x = true) : strconv_Itoa.f x = some ⟨(Lib.itoa x).toArray⟩ ∧ (⟨(Lib.itoa x).toArray⟩ : ByteArray).size ≤ 21 := by
  unfold sessions_Format.i64 at h
  simp only [Bool.and_eq_true, decide_eq_true_eq] at h
  refine ⟨by unfold strconv_Itoa.f; rw [if_pos h.1, if_pos h.2], ?_⟩
  have := Lib.itoa_length_le x h.1 h.2
  show (Lib.itoa x).toArray.size ≤ 21
  rw [List.size_toArray]
  exact this
def sessions_Format.T1 : Bool × List (List Nat × List Nat) := (true, [([], []), ([0], [0]), ([1], [1]), ([2], [2]), ([3], [3]), ([], []), ([5], [5]), ([6, 2], [6]), ([4, 7], [4, 7]), ([8], [8]), ([], []), ([10], [10]), ([11, 7], [11]), ([9, 12], [9, 12]), ([13], [13]), ([], []), ([15], [15]), ([16, 12], [16]), ([14, 17], [14, 17]), ([18], [18]), ([], []), ([20], [20]), ([21, 17], [21]), ([19, 22], [19, 22]), ([23], [23]), ([], []), ([25], [25]), ([26, 22], [26]), ([24, 27], [24, 27]), ([28, 27, 0, 1, 2, 3, 4, 5, 6, 7, 8, 9, 10, 11, 12, 13, 14, 15, 16, 17, 18, 19, 20, 21, 22, 23, 24, 25, 26, 27, 28], [28])])
def sessions_Format.B1 : List Nat := [0, 1, 3, 7, 15, 0, 32, 103, 255, 511, 0, 1024, 3303, 8191, 16383, 0, 32768, 105703, 262143, 524287, 0, 1048576, 3382503, 8388607, 16777215, 0, 33554432, 108240103, 268435455, 536870911]
theorem sessions_Format.tab1 : rtab .any (opsOf Tryd.f14 1) = sessions_Format.T1 := by kernel_rfl
theorem sessions_Format.bits1 : waitsOk sessions_Format.T1.2 sessions_Format.B1 = true := by kernel_rfl
set_option maxHeartbeats 8000000 in
set_option maxRecDepth 100000 in
theorem sessions_Format.calls (a0_0 : Int) (a0_1 : Int) (a0_2 : Int) (a0_3 : Int) (a0_4 : Int) (a0_5 : Int) (a0_6 : Int) (A0_7 : Option Addr) (c0_7 : Nat) (l0_7 : List Int) (A0_8 : Option Addr) (c0_8 : Nat) (l0_8 : List Int) (r : ByteArray) (w : World) (hT : TabOk w) (hr0_7 : Kd.C (Kd.int .i64) w A0_7 l0_7.length l0_7) (hc0_7 : l0_7.length ≤ c0_7) (hr0_8 : Kd.C (Kd.int .i64) w A0_8 l0_8.length l0_8) (hc0_8 : l0_8.length ≤ c0_8) (h : sessions_Format.f a0_0 a0_1 a0_2 a0_3 a0_4 a0_5 a0_6 l0_7 l0_8 = some r) :
    Calls Tryd.prog 14 #[.agg #[.int .i64 a0_0, .int .i64 a0_1, .int .i64 a0_2, .int .i64 a0_3, .int .i64 a0_4, .int .i64 a0_5, .int .i64 a0_6, .slice A0_7 l0_7.length c0_7, .slice A0_8 l0_8.length c0_8]] w fun e w' => e = .returned (.string r) ∧ Below w.heap.size w w' := by
  have hu31 := Tryd.underlying31
  have HT := Aside0.mk hT
  clear hT
  have HR0_7 := Aside0.mk hr0_7
  have HC0_7 := Aside0.mk hc0_7
  clear hr0_7 hc0_7
  have HR0_8 := Aside0.mk hr0_8
  have HC0_8 := Aside0.mk hc0_8
  clear hr0_8 hc0_8
  have HB := Aside0.mk (Below.refl w.heap.size w)
  unfold sessions_Format.f at h
  by_cases hall : (sessions_Format.i64 a0_0 && sessions_Format.i64 a0_1 && sessions_Format.i64 a0_4 && sessions_Format.i64 a0_5 && sessions_Format.i64 a0_2 && sessions_Format.i64 a0_3) = true
  · rw [if_pos hall] at h
    have HR_ := Aside0.mk (Option.some.inj h)
    clear h
    simp only [Bool.and_eq_true] at hall
    obtain ⟨t494, et494, zt494, qt494⟩ : ∃ t, t = (⟨(Lib.itoa a0_0).toArray⟩ : ByteArray) ∧ t.size ≤ 21 ∧ strconv_Itoa.f a0_0 = some t := ⟨_, rfl, (sessions_Format.itoa hall.1.1.1.1.1).2, (sessions_Format.itoa hall.1.1.1.1.1).1⟩
    have A2 := Aside0.mk qt494
    have Et494 := Aside0.mk et494
    clear qt494 et494
    obtain ⟨t495, et495, zt495, qt495⟩ : ∃ t, t = (⟨(Lib.itoa a0_1).toArray⟩ : ByteArray) ∧ t.size ≤ 21 ∧ strconv_Itoa.f a0_1 = some t := ⟨_, rfl, (sessions_Format.itoa hall.1.1.1.1.2).2, (sessions_Format.itoa hall.1.1.1.1.2).1⟩
    have A5 := Aside0.mk qt495
    have Et495 := Aside0.mk et495
    clear qt495 et495
    obtain ⟨t496, et496, zt496, qt496⟩ : ∃ t, t = (⟨(Lib.itoa a0_4).toArray⟩ : ByteArray) ∧ t.size ≤ 21 ∧ strconv_Itoa.f a0_4 = some t := ⟨_, rfl, (sessions_Format.itoa hall.1.1.1.2).2, (sessions_Format.itoa hall.1.1.1.2).1⟩
    have A8 := Aside0.mk qt496
    have Et496 := Aside0.mk et496
    clear qt496 et496
    obtain ⟨t497, et497, zt497, qt497⟩ : ∃ t, t = (⟨(Lib.itoa a0_5).toArray⟩ : ByteArray) ∧ t.size ≤ 21 ∧ strconv_Itoa.f a0_5 = some t := ⟨_, rfl, (sessions_Format.itoa hall.1.1.2).2, (sessions_Format.itoa hall.1.1.2).1⟩
    have A11 := Aside0.mk qt497
    have Et497 := Aside0.mk et497
    clear qt497 et497
    obtain ⟨t498, et498, zt498, qt498⟩ : ∃ t, t = (⟨(Lib.itoa a0_2).toArray⟩ : ByteArray) ∧ t.size ≤ 21 ∧ strconv_Itoa.f a0_2 = some t := ⟨_, rfl, (sessions_Format.itoa hall.1.2).2, (sessions_Format.itoa hall.1.2).1⟩
    have A14 := Aside0.mk qt498
    have Et498 := Aside0.mk et498
    clear qt498 et498
    obtain ⟨t499, et499, zt499, qt499⟩ : ∃ t, t = (⟨(Lib.itoa a0_3).toArray⟩ : ByteArray) ∧ t.size ≤ 21 ∧ strconv_Itoa.f a0_3 = some t := ⟨_, rfl, (sessions_Format.itoa hall.2).2, (sessions_Format.itoa hall.2).1⟩
    have A17 := Aside0.mk qt499
    have Et499 := Aside0.mk et499
    clear qt499 et499
    have c0 : 8 + t494.size ≤ 9223372036854775807 := by
      skip
      omega
    have c1 : ((⟨#[115, 101, 115, 115, 105, 111, 110, 32]⟩ : ByteArray) ++ t494).size + 6 ≤ 9223372036854775807 := by
      (try simp only [ByteArray.size_append, show (⟨#[115, 101, 115, 115, 105, 111, 110, 32]⟩ : ByteArray).size = 8 from rfl, show (⟨#[32, 97, 117, 105, 100, 32]⟩ : ByteArray).size = 6 from rfl, show (⟨#[32, 101, 118, 101, 110, 116, 115, 32]⟩ : ByteArray).size = 8 from rfl, show (⟨#[32, 102, 97, 105, 108, 101, 100, 32]⟩ : ByteArray).size = 8 from rfl, show (⟨#[32, 102, 114, 111, 109, 32]⟩ : ByteArray).size = 6 from rfl, show (⟨#[32, 116, 111, 32]⟩ : ByteArray).size = 4 from rfl])
      omega
    have c2 : (((⟨#[115, 101, 115, 115, 105, 111, 110, 32]⟩ : ByteArray) ++ t494) ++ (⟨#[32, 97, 117, 105, 100, 32]⟩ : ByteArray)).size + t495.size ≤ 9223372036854775807 := by
      (try simp only [ByteArray.size_append, show (⟨#[115, 101, 115, 115, 105, 111, 110, 32]⟩ : ByteArray).size = 8 from rfl, show (⟨#[32, 97, 117, 105, 100, 32]⟩ : ByteArray).size = 6 from rfl, show (⟨#[32, 101, 118, 101, 110, 116, 115, 32]⟩ : ByteArray).size = 8 from rfl, show (⟨#[32, 102, 97, 105, 108, 101, 100, 32]⟩ : ByteArray).size = 8 from rfl, show (⟨#[32, 102, 114, 111, 109, 32]⟩ : ByteArray).size = 6 from rfl, show (⟨#[32, 116, 111, 32]⟩ : ByteArray).size = 4 from rfl])
      omega
    have c3 : ((((⟨#[115, 101, 115, 115, 105, 111, 110, 32]⟩ : ByteArray) ++ t494) ++ (⟨#[32, 97, 117, 105, 100, 32]⟩ : ByteArray)) ++ t495).size + 8 ≤ 9223372036854775807 := by
      (try simp only [ByteArray.size_append, show (⟨#[115, 101, 115, 115, 105, 111, 110, 32]⟩ : ByteArray).size = 8 from rfl, show (⟨#[32, 97, 117, 105, 100, 32]⟩ : ByteArray).size = 6 from rfl, show (⟨#[32, 101, 118, 101, 110, 116, 115, 32]⟩ : ByteArray).size = 8 from rfl, show (⟨#[32, 102, 97, 105, 108, 101, 100, 32]⟩ : ByteArray).size = 8 from rfl, show (⟨#[32, 102, 114, 111, 109, 32]⟩ : ByteArray).size = 6 from rfl, show (⟨#[32, 116, 111, 32]⟩ : ByteArray).size = 4 from rfl])
      omega
    have c4 : (((((⟨#[115, 101, 115, 115, 105, 111, 110, 32]⟩ : ByteArray) ++ t494) ++ (⟨#[32, 97, 117, 105, 100, 32]⟩ : ByteArray)) ++ t495) ++ (⟨#[32, 101, 118, 101, 110, 116, 115, 32]⟩ : ByteArray)).size + t496.size ≤ 9223372036854775807 := by
      (try simp only [ByteArray.size_append, show (⟨#[115, 101, 115, 115, 105, 111, 110, 32]⟩ : ByteArray).size = 8 from rfl, show (⟨#[32, 97, 117, 105, 100, 32]⟩ : ByteArray).size = 6 from rfl, show (⟨#[32, 101, 118, 101, 110, 116, 115, 32]⟩ : ByteArray).size = 8 from rfl, show (⟨#[32, 102, 97, 105, 108, 101, 100, 32]⟩ : ByteArray).size = 8 from rfl, show (⟨#[32, 102, 114, 111, 109, 32]⟩ : ByteArray).size = 6 from rfl, show (⟨#[32, 116, 111, 32]⟩ : ByteArray).size = 4 from rfl])
      omega
    have c5 : ((((((⟨#[115, 101, 115, 115, 105, 111, 110, 32]⟩ : ByteArray) ++ t494) ++ (⟨#[32, 97, 117, 105, 100, 32]⟩ : ByteArray)) ++ t495) ++ (⟨#[32, 101, 118, 101, 110, 116, 115, 32]⟩ : ByteArray)) ++ t496).size + 8 ≤ 9223372036854775807 := by
      (try simp only [ByteArray.size_append, show (⟨#[115, 101, 115, 115, 105, 111, 110, 32]⟩ : ByteArray).size = 8 from rfl, show (⟨#[32, 97, 117, 105, 100, 32]⟩ : ByteArray).size = 6 from rfl, show (⟨#[32, 101, 118, 101, 110, 116, 115, 32]⟩ : ByteArray).size = 8 from rfl, show (⟨#[32, 102, 97, 105, 108, 101, 100, 32]⟩ : ByteArray).size = 8 from rfl, show (⟨#[32, 102, 114, 111, 109, 32]⟩ : ByteArray).size = 6 from rfl, show (⟨#[32, 116, 111, 32]⟩ : ByteArray).size = 4 from rfl])
      omega
    have c6 : (((((((⟨#[115, 101, 115, 115, 105, 111, 110, 32]⟩ : ByteArray) ++ t494) ++ (⟨#[32, 97, 117, 105, 100, 32]⟩ : ByteArray)) ++ t495) ++ (⟨#[32, 101, 118, 101, 110, 116, 115, 32]⟩ : ByteArray)) ++ t496) ++ (⟨#[32, 102, 97, 105, 108, 101, 100, 32]⟩ : ByteArray)).size + t497.size ≤ 9223372036854775807 := by
      (try simp only [ByteArray.size_append, show (⟨#[115, 101, 115, 115, 105, 111, 110, 32]⟩ : ByteArray).size = 8 from rfl, show (⟨#[32, 97, 117, 105, 100, 32]⟩ : ByteArray).size = 6 from rfl, show (⟨#[32, 101, 118, 101, 110, 116, 115, 32]⟩ : ByteArray).size = 8 from rfl, show (⟨#[32, 102, 97, 105, 108, 101, 100, 32]⟩ : ByteArray).size = 8 from rfl, show (⟨#[32, 102, 114, 111, 109, 32]⟩ : ByteArray).size = 6 from rfl, show (⟨#[32, 116, 111, 32]⟩ : ByteArray).size = 4 from rfl])
      omega
    have c7 : ((((((((⟨#[115, 101, 115, 115, 105, 111, 110, 32]⟩ : ByteArray) ++ t494) ++ (⟨#[32, 97, 117, 105, 100, 32]⟩ : ByteArray)) ++ t495) ++ (⟨#[32, 101, 118, 101, 110, 116, 115, 32]⟩ : ByteArray)) ++ t496) ++ (⟨#[32, 102, 97, 105, 108, 101, 100, 32]⟩ : ByteArray)) ++ t497).size + 6 ≤ 9223372036854775807 := by
      (try simp only [ByteArray.size_append, show (⟨#[115, 101, 115, 115, 105, 111, 110, 32]⟩ : ByteArray).size = 8 from rfl, show (⟨#[32, 97, 117, 105, 100, 32]⟩ : ByteArray).size = 6 from rfl, show (⟨#[32, 101, 118, 101, 110, 116, 115, 32]⟩ : ByteArray).size = 8 from rfl, show (⟨#[32, 102, 97, 105, 108, 101, 100, 32]⟩ : ByteArray).size = 8 from rfl, show (⟨#[32, 102, 114, 111, 109, 32]⟩ : ByteArray).size = 6 from rfl, show (⟨#[32, 116, 111, 32]⟩ : ByteArray).size = 4 from rfl])
      omega
    have c8 : (((((((((⟨#[115, 101, 115, 115, 105, 111, 110, 32]⟩ : ByteArray) ++ t494) ++ (⟨#[32, 97, 117, 105, 100, 32]⟩ : ByteArray)) ++ t495) ++ (⟨#[32, 101, 118, 101, 110, 116, 115, 32]⟩ : ByteArray)) ++ t496) ++ (⟨#[32, 102, 97, 105, 108, 101, 100, 32]⟩ : ByteArray)) ++ t497) ++ (⟨#[32, 102, 114, 111, 109, 32]⟩ : ByteArray)).size + t498.size ≤ 9223372036854775807 := by
      (try simp only [ByteArray.size_append, show (⟨#[115, 101, 115, 115, 105, 111, 110, 32]⟩ : ByteArray).size = 8 from rfl, show (⟨#[32, 97, 117, 105, 100, 32]⟩ : ByteArray).size = 6 from rfl, show (⟨#[32, 101, 118, 101, 110, 116, 115, 32]⟩ : ByteArray).size = 8 from rfl, show (⟨#[32, 102, 97, 105, 108, 101, 100, 32]⟩ : ByteArray).size = 8 from rfl, show (⟨#[32, 102, 114, 111, 109, 32]⟩ : ByteArray).size = 6 from rfl, show (⟨#[32, 116, 111, 32]⟩ : ByteArray).size = 4 from rfl])
      omega
    have c9 : ((((((((((⟨#[115, 101, 115, 115, 105, 111, 110, 32]⟩ : ByteArray) ++ t494) ++ (⟨#[32, 97, 117, 105, 100, 32]⟩ : ByteArray)) ++ t495) ++ (⟨#[32, 101, 118, 101, 110, 116, 115, 32]⟩ : ByteArray)) ++ t496) ++ (⟨#[32, 102, 97, 105, 108, 101, 100, 32]⟩ : ByteArray)) ++ t497) ++ (⟨#[32, 102, 114, 111, 109, 32]⟩ : ByteArray)) ++ t498).size + 4 ≤ 9223372036854775807 := by
      (try simp only [ByteArray.size_append, show (⟨#[115, 101, 115, 115, 105, 111, 110, 32]⟩ : ByteArray).size = 8 from rfl, show (⟨#[32, 97, 117, 105, 100, 32]⟩ : ByteArray).size = 6 from rfl, show (⟨#[32, 101, 118, 101, 110, 116, 115, 32]⟩ : ByteArray).size = 8 from rfl, show (⟨#[32, 102, 97, 105, 108, 101, 100, 32]⟩ : ByteArray).size = 8 from rfl, show (⟨#[32, 102, 114, 111, 109, 32]⟩ : ByteArray).size = 6 from rfl, show (⟨#[32, 116, 111, 32]⟩ : ByteArray).size = 4 from rfl])
      omega
    have c10 : (((((((((((⟨#[115, 101, 115, 115, 105, 111, 110, 32]⟩ : ByteArray) ++ t494) ++ (⟨#[32, 97, 117, 105, 100, 32]⟩ : ByteArray)) ++ t495) ++ (⟨#[32, 101, 118, 101, 110, 116, 115, 32]⟩ : ByteArray)) ++ t496) ++ (⟨#[32, 102, 97, 105, 108, 101, 100, 32]⟩ : ByteArray)) ++ t497) ++ (⟨#[32, 102, 114, 111, 109, 32]⟩ : ByteArray)) ++ t498) ++ (⟨#[32, 116, 111, 32]⟩ : ByteArray)).size + t499.size ≤ 9223372036854775807 := by
      (try simp only [ByteArray.size_append, show (⟨#[115, 101, 115, 115, 105, 111, 110, 32]⟩ : ByteArray).size = 8 from rfl, show (⟨#[32, 97, 117, 105, 100, 32]⟩ : ByteArray).size = 6 from rfl, show (⟨#[32, 101, 118, 101, 110, 116, 115, 32]⟩ : ByteArray).size = 8 from rfl, show (⟨#[32, 102, 97, 105, 108, 101, 100, 32]⟩ : ByteArray).size = 8 from rfl, show (⟨#[32, 102, 114, 111, 109, 32]⟩ : ByteArray).size = 6 from rfl, show (⟨#[32, 116, 111, 32]⟩ : ByteArray).size = 4 from rfl])
      omega
    have c11 : ((((((((((((⟨#[115, 101, 115, 115, 105, 111, 110, 32]⟩ : ByteArray) ++ t494) ++ (⟨#[32, 97, 117, 105, 100, 32]⟩ : ByteArray)) ++ t495) ++ (⟨#[32, 101, 118, 101, 110, 116, 115, 32]⟩ : ByteArray)) ++ t496) ++ (⟨#[32, 102, 97, 105, 108, 101, 100, 32]⟩ : ByteArray)) ++ t497) ++ (⟨#[32, 102, 114, 111, 109, 32]⟩ : ByteArray)) ++ t498) ++ (⟨#[32, 116, 111, 32]⟩ : ByteArray)) ++ t499).size + 4 ≤ 9223372036854775807 := by
      (try simp only [ByteArray.size_append, show (⟨#[115, 101, 115, 115, 105, 111, 110, 32]⟩ : ByteArray).size = 8 from rfl, show (⟨#[32, 97, 117, 105, 100, 32]⟩ : ByteArray).size = 6 from rfl, show (⟨#[32, 101, 118, 101, 110, 116, 115, 32]⟩ : ByteArray).size = 8 from rfl, show (⟨#[32, 102, 97, 105, 108, 101, 100, 32]⟩ : ByteArray).size = 8 from rfl, show (⟨#[32, 102, 114, 111, 109, 32]⟩ : ByteArray).size = 6 from rfl, show (⟨#[32, 116, 111, 32]⟩ : ByteArray).size = 4 from rfl])
      omega
    have c12 : ((((((((((((⟨#[115, 101, 115, 115, 105, 111, 110, 32]⟩ : ByteArray) ++ t494) ++ (⟨#[32, 97, 117, 105, 100, 32]⟩ : ByteArray)) ++ t495) ++ (⟨#[32, 101, 118, 101, 110, 116, 115, 32]⟩ : ByteArray)) ++ t496) ++ (⟨#[32, 102, 97, 105, 108, 101, 100, 32]⟩ : ByteArray)) ++ t497) ++ (⟨#[32, 102, 114, 111, 109, 32]⟩ : ByteArray)) ++ t498) ++ (⟨#[32, 116, 111, 32]⟩ : ByteArray)) ++ t499).size + 5 ≤ 9223372036854775807 := by
      (try simp only [ByteArray.size_append, show (⟨#[115, 101, 115, 115, 105, 111, 110, 32]⟩ : ByteArray).size = 8 from rfl, show (⟨#[32, 97, 117, 105, 100, 32]⟩ : ByteArray).size = 6 from rfl, show (⟨#[32, 101, 118, 101, 110, 116, 115, 32]⟩ : ByteArray).size = 8 from rfl, show (⟨#[32, 102, 97, 105, 108, 101, 100, 32]⟩ : ByteArray).size = 8 from rfl, show (⟨#[32, 102, 114, 111, 109, 32]⟩ : ByteArray).size = 6 from rfl, show (⟨#[32, 116, 111, 32]⟩ : ByteArray).size = 4 from rfl])
      omega
    have c13 : ((((((((((((⟨#[115, 101, 115, 115, 105, 111, 110, 32]⟩ : ByteArray) ++ t494) ++ (⟨#[32, 97, 117, 105, 100, 32]⟩ : ByteArray)) ++ t495) ++ (⟨#[32, 101, 118, 101, 110, 116, 115, 32]⟩ : ByteArray)) ++ t496) ++ (⟨#[32, 102, 97, 105, 108, 101, 100, 32]⟩ : ByteArray)) ++ t497) ++ (⟨#[32, 102, 114, 111, 109, 32]⟩ : ByteArray)) ++ t498) ++ (⟨#[32, 116, 111, 32]⟩ : ByteArray)) ++ t499).size + 7 ≤ 9223372036854775807 := by
      (try simp only [ByteArray.size_append, show (⟨#[115, 101, 115, 115, 105, 111, 110, 32]⟩ : ByteArray).size = 8 from rfl, show (⟨#[32, 97, 117, 105, 100, 32]⟩ : ByteArray).size = 6 from rfl, show (⟨#[32, 101, 118, 101, 110, 116, 115, 32]⟩ : ByteArray).size = 8 from rfl, show (⟨#[32, 102, 97, 105, 108, 101, 100, 32]⟩ : ByteArray).size = 8 from rfl, show (⟨#[32, 102, 114, 111, 109, 32]⟩ : ByteArray).size = 6 from rfl, show (⟨#[32, 116, 111, 32]⟩ : ByteArray).size = 4 from rfl])
      omega
    clear zt494 zt495 zt496 zt497 zt498 zt499
    clear hall
    have c0b0 := eq_true c0
    have c0b1 := decide_eq_true c0
    have c0b2 : (9223372036854775807 < 8 + t494.size) = False := eq_false (Nat.not_lt.2 c0)
    (try simp only [ByteArray.size_append, show (⟨#[115, 101, 115, 115, 105, 111, 110, 32]⟩ : ByteArray).size = 8 from rfl, show (⟨#[32, 97, 117, 105, 100, 32]⟩ : ByteArray).size = 6 from rfl, show (⟨#[32, 101, 118, 101, 110, 116, 115, 32]⟩ : ByteArray).size = 8 from rfl, show (⟨#[32, 102, 97, 105, 108, 101, 100, 32]⟩ : ByteArray).size = 8 from rfl, show (⟨#[32, 102, 114, 111, 109, 32]⟩ : ByteArray).size = 6 from rfl, show (⟨#[32, 116, 111, 32]⟩ : ByteArray).size = 4 from rfl] at c0b2)
    clear c0
    have c1b0 := eq_true c1
    have c1b1 := decide_eq_true c1
    have c1b2 : (9223372036854775807 < ((⟨#[115, 101, 115, 115, 105, 111, 110, 32]⟩ : ByteArray) ++ t494).size + 6) = False := eq_false (Nat.not_lt.2 c1)
    (try simp only [ByteArray.size_append, show (⟨#[115, 101, 115, 115, 105, 111, 110, 32]⟩ : ByteArray).size = 8 from rfl, show (⟨#[32, 97, 117, 105, 100, 32]⟩ : ByteArray).size = 6 from rfl, show (⟨#[32, 101, 118, 101, 110, 116, 115, 32]⟩ : ByteArray).size = 8 from rfl, show (⟨#[32, 102, 97, 105, 108, 101, 100, 32]⟩ : ByteArray).size = 8 from rfl, show (⟨#[32, 102, 114, 111, 109, 32]⟩ : ByteArray).size = 6 from rfl, show (⟨#[32, 116, 111, 32]⟩ : ByteArray).size = 4 from rfl] at c1b2)
    clear c1
    have c2b0 := eq_true c2
    have c2b1 := decide_eq_true c2
    have c2b2 : (9223372036854775807 < (((⟨#[115, 101, 115, 115, 105, 111, 110, 32]⟩ : ByteArray) ++ t494) ++ (⟨#[32, 97, 117, 105, 100, 32]⟩ : ByteArray)).size + t495.size) = False := eq_false (Nat.not_lt.2 c2)
    (try simp only [ByteArray.size_append, show (⟨#[115, 101, 115, 115, 105, 111, 110, 32]⟩ : ByteArray).size = 8 from rfl, show (⟨#[32, 97, 117, 105, 100, 32]⟩ : ByteArray).size = 6 from rfl, show (⟨#[32, 101, 118, 101, 110, 116, 115, 32]⟩ : ByteArray).size = 8 from rfl, show (⟨#[32, 102, 97, 105, 108, 101, 100, 32]⟩ : ByteArray).size = 8 from rfl, show (⟨#[32, 102, 114, 111, 109, 32]⟩ : ByteArray).size = 6 from rfl, show (⟨#[32, 116, 111, 32]⟩ : ByteArray).size = 4 from rfl] at c2b2)
    clear c2
    have c3b0 := eq_true c3
    have c3b1 := decide_eq_true c3
    have c3b2 : (9223372036854775807 < ((((⟨#[115, 101, 115, 115, 105, 111, 110, 32]⟩ : ByteArray) ++ t494) ++ (⟨#[32, 97, 117, 105, 100, 32]⟩ : ByteArray)) ++ t495).size + 8) = False := eq_false (Nat.not_lt.2 c3)
    (try simp only [ByteArray.size_append, show (⟨#[115, 101, 115, 115, 105, 111, 110, 32]⟩ : ByteArray).size = 8 from rfl, show (⟨#[32, 97, 117, 105, 100, 32]⟩ : ByteArray).size = 6 from rfl, show (⟨#[32, 101, 118, 101, 110, 116, 115, 32]⟩ : ByteArray).size = 8 from rfl, show (⟨#[32, 102, 97, 105, 108, 101, 100, 32]⟩ : ByteArray).size = 8 from rfl, show (⟨#[32, 102, 114, 111, 109, 32]⟩ : ByteArray).size = 6 from rfl, show (⟨#[32, 116, 111, 32]⟩ : ByteArray).size = 4 from rfl] at c3b2)
    clear c3
    have c4b0 := eq_true c4
    have c4b1 := decide_eq_true c4
    have c4b2 : (9223372036854775807 < (((((⟨#[115, 101, 115, 115, 105, 111, 110, 32]⟩ : ByteArray) ++ t494) ++ (⟨#[32, 97, 117, 105, 100, 32]⟩ : ByteArray)) ++ t495) ++ (⟨#[32, 101, 118, 101, 110, 116, 115, 32]⟩ : ByteArray)).size + t496.size) = False := eq_false (Nat.not_lt.2 c4)
    (try simp only [ByteArray.size_append, show (⟨#[115, 101, 115, 115, 105, 111, 110, 32]⟩ : ByteArray).size = 8 from rfl, show (⟨#[32, 97, 117, 105, 100, 32]⟩ : ByteArray).size = 6 from rfl, show (⟨#[32, 101, 118, 101, 110, 116, 115, 32]⟩ : ByteArray).size = 8 from rfl, show (⟨#[32, 102, 97, 105, 108, 101, 100, 32]⟩ : ByteArray).size = 8 from rfl, show (⟨#[32, 102, 114, 111, 109, 32]⟩ : ByteArray).size = 6 from rfl, show (⟨#[32, 116, 111, 32]⟩ : ByteArray).size = 4 from rfl] at c4b2)
    clear c4
    have c5b0 := eq_true c5
    have c5b1 := decide_eq_true c5
    have c5b2 : (9223372036854775807 < ((((((⟨#[115, 101, 115, 115, 105, 111, 110, 32]⟩ : ByteArray) ++ t494) ++ (⟨#[32, 97, 117, 105, 100, 32]⟩ : ByteArray)) ++ t495) ++ (⟨#[32, 101, 118, 101, 110, 116, 115, 32]⟩ : ByteArray)) ++ t496).size + 8) = False := eq_false (Nat.not_lt.2 c5)
    (try simp only [ByteArray.size_append, show (⟨#[115, 101, 115, 115, 105, 111, 110, 32]⟩ : ByteArray).size = 8 from rfl, show (⟨#[32, 97, 117, 105, 100, 32]⟩ : ByteArray).size = 6 from rfl, show (⟨#[32, 101, 118, 101, 110, 116, 115, 32]⟩ : ByteArray).size = 8 from rfl, show (⟨#[32, 102, 97, 105, 108, 101, 100, 32]⟩ : ByteArray).size = 8 from rfl, show (⟨#[32, 102, 114, 111, 109, 32]⟩ : ByteArray).size = 6 from rfl, show (⟨#[32, 116, 111, 32]⟩ : ByteArray).size = 4 from rfl] at c5b2)
    clear c5
    have c6b0 := eq_true c6
    have c6b1 := decide_eq_true c6
    have c6b2 : (9223372036854775807 < (((((((⟨#[115, 101, 115, 115, 105, 111, 110, 32]⟩ : ByteArray) ++ t494) ++ (⟨#[32, 97, 117, 105, 100, 32]⟩ : ByteArray)) ++ t495) ++ (⟨#[32, 101, 118, 101, 110, 116, 115, 32]⟩ : ByteArray)) ++ t496) ++ (⟨#[32, 102, 97, 105, 108, 101, 100, 32]⟩ : ByteArray)).size + t497.size) = False := eq_false (Nat.not_lt.2 c6)
    (try simp only [ByteArray.size_append, show (⟨#[115, 101, 115, 115, 105, 111, 110, 32]⟩ : ByteArray).size = 8 from rfl, show (⟨#[32, 97, 117, 105, 100, 32]⟩ : ByteArray).size = 6 from rfl, show (⟨#[32, 101, 118, 101, 110, 116, 115, 32]⟩ : ByteArray).size = 8 from rfl, show (⟨#[32, 102, 97, 105, 108, 101, 100, 32]⟩ : ByteArray).size = 8 from rfl, show (⟨#[32, 102, 114, 111, 109, 32]⟩ : ByteArray).size = 6 from rfl, show (⟨#[32, 116, 111, 32]⟩ : ByteArray).size = 4 from rfl] at c6b2)
    clear c6
    have c7b0 := eq_true c7
    have c7b1 := decide_eq_true c7
    have c7b2 : (9223372036854775807 < ((((((((⟨#[115, 101, 115, 115, 105, 111, 110, 32]⟩ : ByteArray) ++ t494) ++ (⟨#[32, 97, 117, 105, 100, 32]⟩ : ByteArray)) ++ t495) ++ (⟨#[32, 101, 118, 101, 110, 116, 115, 32]⟩ : ByteArray)) ++ t496) ++ (⟨#[32, 102, 97, 105, 108, 101, 100, 32]⟩ : ByteArray)) ++ t497).size + 6) = False := eq_false (Nat.not_lt.2 c7)
    (try simp only [ByteArray.size_append, show (⟨#[115, 101, 115, 115, 105, 111, 110, 32]⟩ : ByteArray).size = 8 from rfl, show (⟨#[32, 97, 117, 105, 100, 32]⟩ : ByteArray).size = 6 from rfl, show (⟨#[32, 101, 118, 101, 110, 116, 115, 32]⟩ : ByteArray).size = 8 from rfl, show (⟨#[32, 102, 97, 105, 108, 101, 100, 32]⟩ : ByteArray).size = 8 from rfl, show (⟨#[32, 102, 114, 111, 109, 32]⟩ : ByteArray).size = 6 from rfl, show (⟨#[32, 116, 111, 32]⟩ : ByteArray).size = 4 from rfl] at c7b2)
    clear c7
    have c8b0 := eq_true c8
    have c8b1 := decide_eq_true c8
    have c8b2 : (9223372036854775807 < (((((((((⟨#[115, 101, 115, 115, 105, 111, 110, 32]⟩ : ByteArray) ++ t494) ++ (⟨#[32, 97, 117, 105, 100, 32]⟩ : ByteArray)) ++ t495) ++ (⟨#[32, 101, 118, 101, 110, 116, 115, 32]⟩ : ByteArray)) ++ t496) ++ (⟨#[32, 102, 97, 105, 108, 101, 100, 32]⟩ : ByteArray)) ++ t497) ++ (⟨#[32, 102, 114, 111, 109, 32]⟩ : ByteArray)).size + t498.size) = False := eq_false (Nat.not_lt.2 c8)
    (try simp only [ByteArray.size_append, show (⟨#[115, 101, 115, 115, 105, 111, 110, 32]⟩ : ByteArray).size = 8 from rfl, show (⟨#[32, 97, 117, 105, 100, 32]⟩ : ByteArray).size = 6 from rfl, show (⟨#[32, 101, 118, 101, 110, 116, 115, 32]⟩ : ByteArray).size = 8 from rfl, show (⟨#[32, 102, 97, 105, 108, 101, 100, 32]⟩ : ByteArray).size = 8 from rfl, show (⟨#[32, 102, 114, 111, 109, 32]⟩ : ByteArray).size = 6 from rfl, show (⟨#[32, 116, 111, 32]⟩ : ByteArray).size = 4 from rfl] at c8b2)
    clear c8
    have c9b0 := eq_true c9
    have c9b1 := decide_eq_true c9
    have c9b2 : (9223372036854775807 < ((((((((((⟨#[115, 101, 115, 115, 105, 111, 110, 32]⟩ : ByteArray) ++ t494) ++ (⟨#[32, 97, 117, 105, 100, 32]⟩ : ByteArray)) ++ t495) ++ (⟨#[32, 101, 118, 101, 110, 116, 115, 32]⟩ : ByteArray)) ++ t496) ++ (⟨#[32, 102, 97, 105, 108, 101, 100, 32]⟩ : ByteArray)) ++ t497) ++ (⟨#[32, 102, 114, 111, 109, 32]⟩ : ByteArray)) ++ t498).size + 4) = False := eq_false (Nat.not_lt.2 c9)
    (try simp only [ByteArray.size_append, show (⟨#[115, 101, 115, 115, 105, 111, 110, 32]⟩ : ByteArray).size = 8 from rfl, show (⟨#[32, 97, 117, 105, 100, 32]⟩ : ByteArray).size = 6 from rfl, show (⟨#[32, 101, 118, 101, 110, 116, 115, 32]⟩ : ByteArray).size = 8 from rfl, show (⟨#[32, 102, 97, 105, 108, 101, 100, 32]⟩ : ByteArray).size = 8 from rfl, show (⟨#[32, 102, 114, 111, 109, 32]⟩ : ByteArray).size = 6 from rfl, show (⟨#[32, 116, 111, 32]⟩ : ByteArray).size = 4 from rfl] at c9b2)
    clear c9
    have c10b0 := eq_true c10
    have c10b1 := decide_eq_true c10
    have c10b2 : (9223372036854775807 < (((((((((((⟨#[115, 101, 115, 115, 105, 111, 110, 32]⟩ : ByteArray) ++ t494) ++ (⟨#[32, 97, 117, 105, 100, 32]⟩ : ByteArray)) ++ t495) ++ (⟨#[32, 101, 118, 101, 110, 116, 115, 32]⟩ : ByteArray)) ++ t496) ++ (⟨#[32, 102, 97, 105, 108, 101, 100, 32]⟩ : ByteArray)) ++ t497) ++ (⟨#[32, 102, 114, 111, 109, 32]⟩ : ByteArray)) ++ t498) ++ (⟨#[32, 116, 111, 32]⟩ : ByteArray)).size + t499.size) = False := eq_false (Nat.not_lt.2 c10)
    (try simp only [ByteArray.size_append, show (⟨#[115, 101, 115, 115, 105, 111, 110, 32]⟩ : ByteArray).size = 8 from rfl, show (⟨#[32, 97, 117, 105, 100, 32]⟩ : ByteArray).size = 6 from rfl, show (⟨#[32, 101, 118, 101, 110, 116, 115, 32]⟩ : ByteArray).size = 8 from rfl, show (⟨#[32, 102, 97, 105, 108, 101, 100, 32]⟩ : ByteArray).size = 8 from rfl, show (⟨#[32, 102, 114, 111, 109, 32]⟩ : ByteArray).size = 6 from rfl, show (⟨#[32, 116, 111, 32]⟩ : ByteArray).size = 4 from rfl] at c10b2)
    clear c10
    have c11b0 := eq_true c11
    have c11b1 := decide_eq_true c11
    have c11b2 : (9223372036854775807 < ((((((((((((⟨#[115, 101, 115, 115, 105, 111, 110, 32]⟩ : ByteArray) ++ t494) ++ (⟨#[32, 97, 117, 105, 100, 32]⟩ : ByteArray)) ++ t495) ++ (⟨#[32, 101, 118, 101, 110, 116, 115, 32]⟩ : ByteArray)) ++ t496) ++ (⟨#[32, 102, 97, 105, 108, 101, 100, 32]⟩ : ByteArray)) ++ t497) ++ (⟨#[32, 102, 114, 111, 109, 32]⟩ : ByteArray)) ++ t498) ++ (⟨#[32, 116, 111, 32]⟩ : ByteArray)) ++ t499).size + 4) = False := eq_false (Nat.not_lt.2 c11)
    (try simp only [ByteArray.size_append, show (⟨#[115, 101, 115, 115, 105, 111, 110, 32]⟩ : ByteArray).size = 8 from rfl, show (⟨#[32, 97, 117, 105, 100, 32]⟩ : ByteArray).size = 6 from rfl, show (⟨#[32, 101, 118, 101, 110, 116, 115, 32]⟩ : ByteArray).size = 8 from rfl, show (⟨#[32, 102, 97, 105, 108, 101, 100, 32]⟩ : ByteArray).size = 8 from rfl, show (⟨#[32, 102, 114, 111, 109, 32]⟩ : ByteArray).size = 6 from rfl, show (⟨#[32, 116, 111, 32]⟩ : ByteArray).size = 4 from rfl] at c11b2)
    clear c11
    have c12b0 := eq_true c12
    have c12b1 := decide_eq_true c12
    have c12b2 : (9223372036854775807 < ((((((((((((⟨#[115, 101, 115, 115, 105, 111, 110, 32]⟩ : ByteArray) ++ t494) ++ (⟨#[32, 97, 117, 105, 100, 32]⟩ : ByteArray)) ++ t495) ++ (⟨#[32, 101, 118, 101, 110, 116, 115, 32]⟩ : ByteArray)) ++ t496) ++ (⟨#[32, 102, 97, 105, 108, 101, 100, 32]⟩ : ByteArray)) ++ t497) ++ (⟨#[32, 102, 114, 111, 109, 32]⟩ : ByteArray)) ++ t498) ++ (⟨#[32, 116, 111, 32]⟩ : ByteArray)) ++ t499).size + 5) = False := eq_false (Nat.not_lt.2 c12)
    (try simp only [ByteArray.size_append, show (⟨#[115, 101, 115, 115, 105, 111, 110, 32]⟩ : ByteArray).size = 8 from rfl, show (⟨#[32, 97, 117, 105, 100, 32]⟩ : ByteArray).size = 6 from rfl, show (⟨#[32, 101, 118, 101, 110, 116, 115, 32]⟩ : ByteArray).size = 8 from rfl, show (⟨#[32, 102, 97, 105, 108, 101, 100, 32]⟩ : ByteArray).size = 8 from rfl, show (⟨#[32, 102, 114, 111, 109, 32]⟩ : ByteArray).size = 6 from rfl, show (⟨#[32, 116, 111, 32]⟩ : ByteArray).size = 4 from rfl] at c12b2)
    clear c12
    have c13b0 := eq_true c13
    have c13b1 := decide_eq_true c13
    have c13b2 : (9223372036854775807 < ((((((((((((⟨#[115, 101, 115, 115, 105, 111, 110, 32]⟩ : ByteArray) ++ t494) ++ (⟨#[32, 97, 117, 105, 100, 32]⟩ : ByteArray)) ++ t495) ++ (⟨#[32, 101, 118, 101, 110, 116, 115, 32]⟩ : ByteArray)) ++ t496) ++ (⟨#[32, 102, 97, 105, 108, 101, 100, 32]⟩ : ByteArray)) ++ t497) ++ (⟨#[32, 102, 114, 111, 109, 32]⟩ : ByteArray)) ++ t498) ++ (⟨#[32, 116, 111, 32]⟩ : ByteArray)) ++ t499).size + 7) = False := eq_false (Nat.not_lt.2 c13)
    (try simp only [ByteArray.size_append, show (⟨#[115, 101, 115, 115, 105, 111, 110, 32]⟩ : ByteArray).size = 8 from rfl, show (⟨#[32, 97, 117, 105, 100, 32]⟩ : ByteArray).size = 6 from rfl, show (⟨#[32, 101, 118, 101, 110, 116, 115, 32]⟩ : ByteArray).size = 8 from rfl, show (⟨#[32, 102, 97, 105, 108, 101, 100, 32]⟩ : ByteArray).size = 8 from rfl, show (⟨#[32, 102, 114, 111, 109, 32]⟩ : ByteArray).size = 6 from rfl, show (⟨#[32, 116, 111, 32]⟩ : ByteArray).size = 4 from rfl] at c13b2)
    clear c13
    go_enter Tryd.func14, Tryd.ntmps14
    try go_wp2_with (first | ((with_reducible refine gate_dst (N := 1) rfl ?_); refine box_event ?hg (N := 1) ?hd (cs := #[.int .i64 a0_0, .int .i64 a0_1, .int .i64 a0_2, .int .i64 a0_3, .int .i64 a0_4, .int .i64 a0_5, .int .i64 a0_6, .slice A0_7 l0_7.length c0_7, .slice A0_8 l0_8.length c0_8]) (t := 31) ?hr ?_; (case hd => rfl); (case hg => rfl); (case hr => first | (go_simp; done) | (go_simp; rfl)); intro gb493 hg w21 hbox hb; have n0_ := Aside0.mk (below_step (qrQx6_1) hb); have n1_ := Aside0.mk (hbox); have n2_ := Aside0.mk ((by rw [hg]; exact (below_size (qrQx6_1)) : w.heap.size ≤ gb493)); have n3_ := Aside0.mk ((by rw [hg]; exact (below_size (qrQx6_1)) : w.heap.size ≤ gb493)); clear HB; have HB := n0_; have BK493 := n1_; have GW493 := n2_; have GE493 := n3_; clear n0_ n1_ n2_ n3_; clear hb hbox hg))
    have n0_ := Aside0.mk (blk_drew BK493.out)
    have n1_ := Aside0.mk (below_drew1 HB.out)
    clear BK493
    clear HB
    have BK493 := n0_
    have HB := n1_
    clear n0_ n1_
    refine start_ (n := 30) (S := fun w' => w'.cell? ⟨gb493, 0, none⟩ = some (.int .i64 a0_0) ∧ w'.cell? ⟨gb493, 1, none⟩ = some (.int .i64 a0_1) ∧ w'.cell? ⟨gb493, 2, none⟩ = some (.int .i64 a0_2) ∧ w'.cell? ⟨gb493, 3, none⟩ = some (.int .i64 a0_3) ∧ w'.cell? ⟨gb493, 4, none⟩ = some (.int .i64 a0_4) ∧ w'.cell? ⟨gb493, 5, none⟩ = some (.int .i64 a0_5) ∧ w'.cell? ⟨gb493, 6, none⟩ = some (.int .i64 a0_6) ∧ w'.cell? ⟨gb493, 7, none⟩ = some (.slice A0_7 l0_7.length c0_7) ∧ w'.cell? ⟨gb493, 8, none⟩ = some (.slice A0_8 l0_8.length c0_8)) (ds := []) #[false, false, false, false, false, false, false, false, false, false, false, false, false, false, false, false, false, false, false, false, false, false, false, false, false, false, false, false, false, false] (by kernel_rfl) rfl rfl ⟨(blk_cell BK493.out 0).trans rfl, (blk_cell BK493.out 1).trans rfl, (blk_cell BK493.out 2).trans rfl, (blk_cell BK493.out 3).trans rfl, (blk_cell BK493.out 4).trans rfl, (blk_cell BK493.out 5).trans rfl, (blk_cell BK493.out 6).trans rfl, (blk_cell BK493.out 7).trans rfl, (blk_cell BK493.out 8).trans rfl⟩ (fun hHeld => ?_); refine with_tabW sessions_Format.tab1 sessions_Format.bits1 (fun HT_ HW_ => ?_)
    generalize w21.drew = w22 at BK493 HB hHeld ⊢
    refine pure_ (i := 0) (N := some 4) (v := ?_) (a' := ?_) #[true, false, false, false, false, false, false, false, false, false, false, false, false, false, false, false, false, false, false, false, false, false, false, false, false, false, false, false, false, false] rfl rfl (any_of HT_.out (by kernel_rfl)) (fun _ _ _ h => h) (Or.inl ⟨by rfl, ?_⟩) ?_ ?_
    rotate_left
    · intro w'
      go_simp
      with_reducible rfl
    rotate_left
    · simp only [Act.put, List.setIfInBounds_toArray, List.set_cons_zero, List.set_cons_succ, i64_w, i32_w]
      rfl
    refine pure_ (i := 5) (N := some 9) (v := ?_) (a' := ?_) #[true, false, false, false, false, true, false, false, false, false, false, false, false, false, false, false, false, false, false, false, false, false, false, false, false, false, false, false, false, false] rfl rfl (any_of HT_.out (by kernel_rfl)) (fun _ _ _ h => h) (Or.inl ⟨by rfl, ?_⟩) ?_ ?_
    rotate_left
    · intro w'
      go_simp
      with_reducible rfl
    rotate_left
    · simp only [Act.put, List.setIfInBounds_toArray, List.set_cons_zero, List.set_cons_succ, i64_w, i32_w]
      rfl
    refine pure_ (i := 10) (N := some 14) (v := ?_) (a' := ?_) #[true, false, false, false, false, true, false, false, false, false, true, false, false, false, false, false, false, false, false, false, false, false, false, false, false, false, false, false, false, false] rfl rfl (any_of HT_.out (by kernel_rfl)) (fun _ _ _ h => h) (Or.inl ⟨by rfl, ?_⟩) ?_ ?_
    rotate_left
    · intro w'
      go_simp
      with_reducible rfl
    rotate_left
    · simp only [Act.put, List.setIfInBounds_toArray, List.set_cons_zero, List.set_cons_succ, i64_w, i32_w]
      rfl
    refine pure_ (i := 15) (N := some 19) (v := ?_) (a' := ?_) #[true, false, false, false, false, true, false, false, false, false, true, false, false, false, false, true, false, false, false, false, false, false, false, false, false, false, false, false, false, false] rfl rfl (any_of HT_.out (by kernel_rfl)) (fun _ _ _ h => h) (Or.inl ⟨by rfl, ?_⟩) ?_ ?_
    rotate_left
    · intro w'
      go_simp
      with_reducible rfl
    rotate_left
    · simp only [Act.put, List.setIfInBounds_toArray, List.set_cons_zero, List.set_cons_succ, i64_w, i32_w]
      rfl
    refine pure_ (i := 20) (N := some 24) (v := ?_) (a' := ?_) #[true, false, false, false, false, true, false, false, false, false, true, false, false, false, false, true, false, false, false, false, true, false, false, false, false, false, false, false, false, false] rfl rfl (any_of HT_.out (by kernel_rfl)) (fun _ _ _ h => h) (Or.inl ⟨by rfl, ?_⟩) ?_ ?_
    rotate_left
    · intro w'
      go_simp
      with_reducible rfl
    rotate_left
    · simp only [Act.put, List.setIfInBounds_toArray, List.set_cons_zero, List.set_cons_succ, i64_w, i32_w]
      rfl
    refine pure_ (i := 25) (N := some 29) (v := ?_) (a' := ?_) #[true, false, false, false, false, true, false, false, false, false, true, false, false, false, false, true, false, false, false, false, true, false, false, false, false, true, false, false, false, false] rfl rfl (any_of HT_.out (by kernel_rfl)) (fun _ _ _ h => h) (Or.inl ⟨by rfl, ?_⟩) ?_ ?_
    rotate_left
    · intro w'
      go_simp
      with_reducible rfl
    rotate_left
    · simp only [Act.put, List.setIfInBounds_toArray, List.set_cons_zero, List.set_cons_succ, i64_w, i32_w]
      rfl
    refine take_ (i := 1) (N := some 5) (v := ?_) (a' := ?_) #[true, true, false, false, false, true, false, false, false, false, true, false, false, false, false, true, false, false, false, false, true, false, false, false, false, true, false, false, false, false] rfl rfl (take_ofW HT_.out HW_.out (by kernel_rfl)) (fun _ _ _ h => h) (Or.inl ⟨by rfl, ?_⟩) hHeld ?_ ?_
    rotate_left
    · rintro w' ⟨s0, s1, s2, s3, s4, s5, s6, s7, s8⟩
      go_simp
      with_reducible rfl
    rotate_left
    · simp only [Act.put, List.setIfInBounds_toArray, List.set_cons_zero, List.set_cons_succ, i64_w, i32_w]
      rfl
    refine take_ (i := 6) (N := some 10) (v := ?_) (a' := ?_) #[true, true, false, false, false, true, true, false, false, false, true, false, false, false, false, true, false, false, false, false, true, false, false, false, false, true, false, false, false, false] rfl rfl (take_ofW HT_.out HW_.out (by kernel_rfl)) (fun _ _ _ h => h) (Or.inl ⟨by rfl, ?_⟩) hHeld ?_ ?_
    rotate_left
    · rintro w' ⟨s0, s1, s2, s3, s4, s5, s6, s7, s8⟩
      go_simp
      with_reducible rfl
    rotate_left
    · simp only [Act.put, List.setIfInBounds_toArray, List.set_cons_zero, List.set_cons_succ, i64_w, i32_w]
      rfl
    refine take_ (i := 11) (N := some 15) (v := ?_) (a' := ?_) #[true, true, false, false, false, true, true, false, false, false, true, true, false, false, false, true, false, false, false, false, true, false, false, false, false, true, false, false, false, false] rfl rfl (take_ofW HT_.out HW_.out (by kernel_rfl)) (fun _ _ _ h => h) (Or.inl ⟨by rfl, ?_⟩) hHeld ?_ ?_
    rotate_left
    · rintro w' ⟨s0, s1, s2, s3, s4, s5, s6, s7, s8⟩
      go_simp
      with_reducible rfl
    rotate_left
    · simp only [Act.put, List.setIfInBounds_toArray, List.set_cons_zero, List.set_cons_succ, i64_w, i32_w]
      rfl
    refine take_ (i := 16) (N := some 20) (v := ?_) (a' := ?_) #[true, true, false, false, false, true, true, false, false, false, true, true, false, false, false, true, true, false, false, false, true, false, false, false, false, true, false, false, false, false] rfl rfl (take_ofW HT_.out HW_.out (by kernel_rfl)) (fun _ _ _ h => h) (Or.inl ⟨by rfl, ?_⟩) hHeld ?_ ?_
    rotate_left
    · rintro w' ⟨s0, s1, s2, s3, s4, s5, s6, s7, s8⟩
      go_simp
      with_reducible rfl
    rotate_left
    · simp only [Act.put, List.setIfInBounds_toArray, List.set_cons_zero, List.set_cons_succ, i64_w, i32_w]
      rfl
    refine take_ (i := 21) (N := some 25) (v := ?_) (a' := ?_) #[true, true, false, false, false, true, true, false, false, false, true, true, false, false, false, true, true, false, false, false, true, true, false, false, false, true, false, false, false, false] rfl rfl (take_ofW HT_.out HW_.out (by kernel_rfl)) (fun _ _ _ h => h) (Or.inl ⟨by rfl, ?_⟩) hHeld ?_ ?_
    rotate_left
    · rintro w' ⟨s0, s1, s2, s3, s4, s5, s6, s7, s8⟩
      go_simp
      with_reducible rfl
    rotate_left
    · simp only [Act.put, List.setIfInBounds_toArray, List.set_cons_zero, List.set_cons_succ, i64_w, i32_w]
      rfl
    refine take_ (i := 26) (N := some 30) (v := ?_) (a' := ?_) #[true, true, false, false, false, true, true, false, false, false, true, true, false, false, false, true, true, false, false, false, true, true, false, false, false, true, true, false, false, false] rfl rfl (take_ofW HT_.out HW_.out (by kernel_rfl)) (fun _ _ _ h => h) (Or.inl ⟨by rfl, ?_⟩) hHeld ?_ ?_
    rotate_left
    · rintro w' ⟨s0, s1, s2, s3, s4, s5, s6, s7, s8⟩
      go_simp
      with_reducible rfl
    rotate_left
    · simp only [Act.put, List.setIfInBounds_toArray, List.set_cons_zero, List.set_cons_succ, i64_w, i32_w]
      rfl
    refine one_ (i := 2) (N := some 6) #[true, true, true, false, false, true, true, false, false, false, true, true, false, false, false, true, true, false, false, false, true, true, false, false, false, true, true, false, false, false] rfl rfl (one_of HT_.out (by kernel_rfl)) (by decide) (fun K hK => ?_)
    refine goes_ Tryd.func31 (by kernel_rfl) rfl #[.int .i64 a0_0] (by rfl) rfl rfl (qrQx6_2) ?_
    with_reducible refine (strconv_Itoa.calls a0_0 t494 _ ?side1 A2.out).mono ?_
    (case side1 => exact TabOk.below HT.out (qrQx6_0))
    rintro e w23 ⟨rfl, hb⟩
    refine ⟨_, rfl, ?_⟩
    have n0_ := Aside0.mk (blk_below (g := gb493) (o := .cells #[.int .i64 a0_0, .int .i64 a0_1, .int .i64 a0_2, .int .i64 a0_3, .int .i64 a0_4, .int .i64 a0_5, .int .i64 a0_6, .slice A0_7 l0_7.length c0_7, .slice A0_8 l0_8.length c0_8] 31 (0, 0)) (qrQx6_3) hb)
    have n1_ := Aside0.mk (below_step (qrQx6_0) hb)
    clear BK493
    clear HB
    have BK493 := n0_
    have HB := n1_
    clear n0_ n1_
    (try clear hb)
    (try clear hb2)
    (try clear hk)
    (try clear hi)
    refine hK.out _ _ ⟨(blk_cell BK493.out 0).trans rfl, (blk_cell BK493.out 1).trans rfl, (blk_cell BK493.out 2).trans rfl, (blk_cell BK493.out 3).trans rfl, (blk_cell BK493.out 4).trans rfl, (blk_cell BK493.out 5).trans rfl, (blk_cell BK493.out 6).trans rfl, (blk_cell BK493.out 7).trans rfl, (blk_cell BK493.out 8).trans rfl⟩ (fun hHeld => ?_)
    clear hK K
    refine norm_ (a' := ?_) ?_ ?_
    rotate_left
    · show Act.put _ (some 6) _ = _
      simp only [Act.put, List.setIfInBounds_toArray, List.set_cons_zero, List.set_cons_succ, i64_w, i32_w]
      rfl
    refine pure_ (i := 3) (N := some 7) (v := ?_) (a' := ?_) #[true, true, true, true, false, true, true, false, false, false, true, true, false, false, false, true, true, false, false, false, true, true, false, false, false, true, true, false, false, false] rfl rfl (any_of HT_.out (by kernel_rfl)) (fun _ _ _ h => h) (Or.inl ⟨by rfl, ?_⟩) ?_ ?_
    rotate_left
    · intro w'
      go_simp
      with_reducible rfl
    rotate_left
    · simp only [Act.put, List.setIfInBounds_toArray, List.set_cons_zero, List.set_cons_succ, i64_w, i32_w]
      rfl
    refine pure_ (i := 4) (N := some 8) (v := ?_) (a' := ?_) #[true, true, true, true, true, true, true, false, false, false, true, true, false, false, false, true, true, false, false, false, true, true, false, false, false, true, true, false, false, false] rfl rfl (any_of HT_.out (by kernel_rfl)) (fun _ _ _ h => h) (Or.inl ⟨by rfl, ?_⟩) ?_ ?_
    rotate_left
    · intro w'
      go_simp
      with_reducible rfl
    rotate_left
    · simp only [Act.put, List.setIfInBounds_toArray, List.set_cons_zero, List.set_cons_succ, i64_w, i32_w]
      rfl
    refine one_ (i := 7) (N := some 11) #[true, true, true, true, true, true, true, true, false, false, true, true, false, false, false, true, true, false, false, false, true, true, false, false, false, true, true, false, false, false] rfl rfl (one_of HT_.out (by kernel_rfl)) (by decide) (fun K hK => ?_)
    refine goes_ Tryd.func31 (by kernel_rfl) rfl #[.int .i64 a0_1] (by rfl) rfl rfl (qrQx6_2) ?_
    with_reducible refine (strconv_Itoa.calls a0_1 t495 _ ?side1 A5.out).mono ?_
    (case side1 => exact TabOk.below HT.out (qrQx6_0))
    rintro e w24 ⟨rfl, hb⟩
    refine ⟨_, rfl, ?_⟩
    have n0_ := Aside0.mk (blk_below (g := gb493) (o := .cells #[.int .i64 a0_0, .int .i64 a0_1, .int .i64 a0_2, .int .i64 a0_3, .int .i64 a0_4, .int .i64 a0_5, .int .i64 a0_6, .slice A0_7 l0_7.length c0_7, .slice A0_8 l0_8.length c0_8] 31 (0, 0)) (qrQx6_3) hb)
    have n1_ := Aside0.mk (below_step (qrQx6_0) hb)
    clear BK493
    clear HB
    have BK493 := n0_
    have HB := n1_
    clear n0_ n1_
    (try clear hb)
    (try clear hb2)
    (try clear hk)
    (try clear hi)
    refine hK.out _ _ ⟨(blk_cell BK493.out 0).trans rfl, (blk_cell BK493.out 1).trans rfl, (blk_cell BK493.out 2).trans rfl, (blk_cell BK493.out 3).trans rfl, (blk_cell BK493.out 4).trans rfl, (blk_cell BK493.out 5).trans rfl, (blk_cell BK493.out 6).trans rfl, (blk_cell BK493.out 7).trans rfl, (blk_cell BK493.out 8).trans rfl⟩ (fun hHeld => ?_)
    clear hK K
    refine norm_ (a' := ?_) ?_ ?_
    rotate_left
    · show Act.put _ (some 11) _ = _
      simp only [Act.put, List.setIfInBounds_toArray, List.set_cons_zero, List.set_cons_succ, i64_w, i32_w]
      rfl
    refine pure_ (i := 8) (N := some 12) (v := ?_) (a' := ?_) #[true, true, true, true, true, true, true, true, true, false, true, true, false, false, false, true, true, false, false, false, true, true, false, false, false, true, true, false, false, false] rfl rfl (any_of HT_.out (by kernel_rfl)) (fun _ _ _ h => h) (Or.inl ⟨by rfl, ?_⟩) ?_ ?_
    rotate_left
    · intro w'
      go_simp
      with_reducible rfl
    rotate_left
    · simp only [Act.put, List.setIfInBounds_toArray, List.set_cons_zero, List.set_cons_succ, i64_w, i32_w]
      rfl
    refine pure_ (i := 9) (N := some 13) (v := ?_) (a' := ?_) #[true, true, true, true, true, true, true, true, true, true, true, true, false, false, false, true, true, false, false, false, true, true, false, false, false, true, true, false, false, false] rfl rfl (any_of HT_.out (by kernel_rfl)) (fun _ _ _ h => h) (Or.inl ⟨by rfl, ?_⟩) ?_ ?_
    rotate_left
    · intro w'
      go_simp
      with_reducible rfl
    rotate_left
    · simp only [Act.put, List.setIfInBounds_toArray, List.set_cons_zero, List.set_cons_succ, i64_w, i32_w]
      rfl
    refine one_ (i := 12) (N := some 16) #[true, true, true, true, true, true, true, true, true, true, true, true, true, false, false, true, true, false, false, false, true, true, false, false, false, true, true, false, false, false] rfl rfl (one_of HT_.out (by kernel_rfl)) (by decide) (fun K hK => ?_)
    refine goes_ Tryd.func31 (by kernel_rfl) rfl #[.int .i64 a0_4] (by rfl) rfl rfl (qrQx6_2) ?_
    with_reducible refine (strconv_Itoa.calls a0_4 t496 _ ?side1 A8.out).mono ?_
    (case side1 => exact TabOk.below HT.out (qrQx6_0))
    rintro e w25 ⟨rfl, hb⟩
    refine ⟨_, rfl, ?_⟩
    have n0_ := Aside0.mk (blk_below (g := gb493) (o := .cells #[.int .i64 a0_0, .int .i64 a0_1, .int .i64 a0_2, .int .i64 a0_3, .int .i64 a0_4, .int .i64 a0_5, .int .i64 a0_6, .slice A0_7 l0_7.length c0_7, .slice A0_8 l0_8.length c0_8] 31 (0, 0)) (qrQx6_3) hb)
    have n1_ := Aside0.mk (below_step (qrQx6_0) hb)
    clear BK493
    clear HB
    have BK493 := n0_
    have HB := n1_
    clear n0_ n1_
    (try clear hb)
    (try clear hb2)
    (try clear hk)
    (try clear hi)
    refine hK.out _ _ ⟨(blk_cell BK493.out 0).trans rfl, (blk_cell BK493.out 1).trans rfl, (blk_cell BK493.out 2).trans rfl, (blk_cell BK493.out 3).trans rfl, (blk_cell BK493.out 4).trans rfl, (blk_cell BK493.out 5).trans rfl, (blk_cell BK493.out 6).trans rfl, (blk_cell BK493.out 7).trans rfl, (blk_cell BK493.out 8).trans rfl⟩ (fun hHeld => ?_)
    clear hK K
    refine norm_ (a' := ?_) ?_ ?_
    rotate_left
    · show Act.put _ (some 16) _ = _
      simp only [Act.put, List.setIfInBounds_toArray, List.set_cons_zero, List.set_cons_succ, i64_w, i32_w]
      rfl
    refine pure_ (i := 13) (N := some 17) (v := ?_) (a' := ?_) #[true, true, true, true, true, true, true, true, true, true, true, true, true, true, false, true, true, false, false, false, true, true, false, false, false, true, true, false, false, false] rfl rfl (any_of HT_.out (by kernel_rfl)) (fun _ _ _ h => h) (Or.inl ⟨by rfl, ?_⟩) ?_ ?_
    rotate_left
    · intro w'
      go_simp
      with_reducible rfl
    rotate_left
    · simp only [Act.put, List.setIfInBounds_toArray, List.set_cons_zero, List.set_cons_succ, i64_w, i32_w]
      rfl
    refine pure_ (i := 14) (N := some 18) (v := ?_) (a' := ?_) #[true, true, true, true, true, true, true, true, true, true, true, true, true, true, true, true, true, false, false, false, true, true, false, false, false, true, true, false, false, false] rfl rfl (any_of HT_.out (by kernel_rfl)) (fun _ _ _ h => h) (Or.inl ⟨by rfl, ?_⟩) ?_ ?_
    rotate_left
    · intro w'
      go_simp
      with_reducible rfl
    rotate_left
    · simp only [Act.put, List.setIfInBounds_toArray, List.set_cons_zero, List.set_cons_succ, i64_w, i32_w]
      rfl
    refine one_ (i := 17) (N := some 21) #[true, true, true, true, true, true, true, true, true, true, true, true, true, true, true, true, true, true, false, false, true, true, false, false, false, true, true, false, false, false] rfl rfl (one_of HT_.out (by kernel_rfl)) (by decide) (fun K hK => ?_)
    refine goes_ Tryd.func31 (by kernel_rfl) rfl #[.int .i64 a0_5] (by rfl) rfl rfl (qrQx6_2) ?_
    with_reducible refine (strconv_Itoa.calls a0_5 t497 _ ?side1 A11.out).mono ?_
    (case side1 => exact TabOk.below HT.out (qrQx6_0))
    rintro e w26 ⟨rfl, hb⟩
    refine ⟨_, rfl, ?_⟩
    have n0_ := Aside0.mk (blk_below (g := gb493) (o := .cells #[.int .i64 a0_0, .int .i64 a0_1, .int .i64 a0_2, .int .i64 a0_3, .int .i64 a0_4, .int .i64 a0_5, .int .i64 a0_6, .slice A0_7 l0_7.length c0_7, .slice A0_8 l0_8.length c0_8] 31 (0, 0)) (qrQx6_3) hb)
    have n1_ := Aside0.mk (below_step (qrQx6_0) hb)
    clear BK493
    clear HB
    have BK493 := n0_
    have HB := n1_
    clear n0_ n1_
    (try clear hb)
    (try clear hb2)
    (try clear hk)
    (try clear hi)
    refine hK.out _ _ ⟨(blk_cell BK493.out 0).trans rfl, (blk_cell BK493.out 1).trans rfl, (blk_cell BK493.out 2).trans rfl, (blk_cell BK493.out 3).trans rfl, (blk_cell BK493.out 4).trans rfl, (blk_cell BK493.out 5).trans rfl, (blk_cell BK493.out 6).trans rfl, (blk_cell BK493.out 7).trans rfl, (blk_cell BK493.out 8).trans rfl⟩ (fun hHeld => ?_)
    clear hK K
    refine norm_ (a' := ?_) ?_ ?_
    rotate_left
    · show Act.put _ (some 21) _ = _
      simp only [Act.put, List.setIfInBounds_toArray, List.set_cons_zero, List.set_cons_succ, i64_w, i32_w]
      rfl
    refine pure_ (i := 18) (N := some 22) (v := ?_) (a' := ?_) #[true, true, true, true, true, true, true, true, true, true, true, true, true, true, true, true, true, true, true, false, true, true, false, false, false, true, true, false, false, false] rfl rfl (any_of HT_.out (by kernel_rfl)) (fun _ _ _ h => h) (Or.inl ⟨by rfl, ?_⟩) ?_ ?_
    rotate_left
    · intro w'
      go_simp
      with_reducible rfl
    rotate_left
    · simp only [Act.put, List.setIfInBounds_toArray, List.set_cons_zero, List.set_cons_succ, i64_w, i32_w]
      rfl
    refine pure_ (i := 19) (N := some 23) (v := ?_) (a' := ?_) #[true, true, true, true, true, true, true, true, true, true, true, true, true, true, true, true, true, true, true, true, true, true, false, false, false, true, true, false, false, false] rfl rfl (any_of HT_.out (by kernel_rfl)) (fun _ _ _ h => h) (Or.inl ⟨by rfl, ?_⟩) ?_ ?_
    rotate_left
    · intro w'
      go_simp
      with_reducible rfl
    rotate_left
    · simp only [Act.put, List.setIfInBounds_toArray, List.set_cons_zero, List.set_cons_succ, i64_w, i32_w]
      rfl
    refine one_ (i := 22) (N := some 26) #[true, true, true, true, true, true, true, true, true, true, true, true, true, true, true, true, true, true, true, true, true, true, true, false, false, true, true, false, false, false] rfl rfl (one_of HT_.out (by kernel_rfl)) (by decide) (fun K hK => ?_)
    refine goes_ Tryd.func31 (by kernel_rfl) rfl #[.int .i64 a0_2] (by rfl) rfl rfl (qrQx6_2) ?_
    with_reducible refine (strconv_Itoa.calls a0_2 t498 _ ?side1 A14.out).mono ?_
    (case side1 => exact TabOk.below HT.out (qrQx6_0))
    rintro e w27 ⟨rfl, hb⟩
    refine ⟨_, rfl, ?_⟩
    have n0_ := Aside0.mk (blk_below (g := gb493) (o := .cells #[.int .i64 a0_0, .int .i64 a0_1, .int .i64 a0_2, .int .i64 a0_3, .int .i64 a0_4, .int .i64 a0_5, .int .i64 a0_6, .slice A0_7 l0_7.length c0_7, .slice A0_8 l0_8.length c0_8] 31 (0, 0)) (qrQx6_3) hb)
    have n1_ := Aside0.mk (below_step (qrQx6_0) hb)
    clear BK493
    clear HB
    have BK493 := n0_
    have HB := n1_
    clear n0_ n1_
    (try clear hb)
    (try clear hb2)
    (try clear hk)
    (try clear hi)
    refine hK.out _ _ ⟨(blk_cell BK493.out 0).trans rfl, (blk_cell BK493.out 1).trans rfl, (blk_cell BK493.out 2).trans rfl, (blk_cell BK493.out 3).trans rfl, (blk_cell BK493.out 4).trans rfl, (blk_cell BK493.out 5).trans rfl, (blk_cell BK493.out 6).trans rfl, (blk_cell BK493.out 7).trans rfl, (blk_cell BK493.out 8).trans rfl⟩ (fun hHeld => ?_)
    clear hK K
    refine norm_ (a' := ?_) ?_ ?_
    rotate_left
    · show Act.put _ (some 26) _ = _
      simp only [Act.put, List.setIfInBounds_toArray, List.set_cons_zero, List.set_cons_succ, i64_w, i32_w]
      rfl
    refine pure_ (i := 23) (N := some 27) (v := ?_) (a' := ?_) #[true, true, true, true, true, true, true, true, true, true, true, true, true, true, true, true, true, true, true, true, true, true, true, true, false, true, true, false, false, false] rfl rfl (any_of HT_.out (by kernel_rfl)) (fun _ _ _ h => h) (Or.inl ⟨by rfl, ?_⟩) ?_ ?_
    rotate_left
    · intro w'
      go_simp
      with_reducible rfl
    rotate_left
    · simp only [Act.put, List.setIfInBounds_toArray, List.set_cons_zero, List.set_cons_succ, i64_w, i32_w]
      rfl
    refine pure_ (i := 24) (N := some 28) (v := ?_) (a' := ?_) #[true, true, true, true, true, true, true, true, true, true, true, true, true, true, true, true, true, true, true, true, true, true, true, true, true, true, true, false, false, false] rfl rfl (any_of HT_.out (by kernel_rfl)) (fun _ _ _ h => h) (Or.inl ⟨by rfl, ?_⟩) ?_ ?_
    rotate_left
    · intro w'
      go_simp
      with_reducible rfl
    rotate_left
    · simp only [Act.put, List.setIfInBounds_toArray, List.set_cons_zero, List.set_cons_succ, i64_w, i32_w]
      rfl
    refine one_ (i := 27) (N := some 31) #[true, true, true, true, true, true, true, true, true, true, true, true, true, true, true, true, true, true, true, true, true, true, true, true, true, true, true, true, false, false] rfl rfl (one_of HT_.out (by kernel_rfl)) (by decide) (fun K hK => ?_)
    refine goes_ Tryd.func31 (by kernel_rfl) rfl #[.int .i64 a0_3] (by rfl) rfl rfl (qrQx6_2) ?_
    with_reducible refine (strconv_Itoa.calls a0_3 t499 _ ?side1 A17.out).mono ?_
    (case side1 => exact TabOk.below HT.out (qrQx6_0))
    rintro e w28 ⟨rfl, hb⟩
    refine ⟨_, rfl, ?_⟩
    have n0_ := Aside0.mk (blk_below (g := gb493) (o := .cells #[.int .i64 a0_0, .int .i64 a0_1, .int .i64 a0_2, .int .i64 a0_3, .int .i64 a0_4, .int .i64 a0_5, .int .i64 a0_6, .slice A0_7 l0_7.length c0_7, .slice A0_8 l0_8.length c0_8] 31 (0, 0)) (qrQx6_3) hb)
    have n1_ := Aside0.mk (below_step (qrQx6_0) hb)
    clear BK493
    clear HB
    have BK493 := n0_
    have HB := n1_
    clear n0_ n1_
    (try clear hb)
    (try clear hb2)
    (try clear hk)
    (try clear hi)
    refine hK.out _ _ ⟨(blk_cell BK493.out 0).trans rfl, (blk_cell BK493.out 1).trans rfl, (blk_cell BK493.out 2).trans rfl, (blk_cell BK493.out 3).trans rfl, (blk_cell BK493.out 4).trans rfl, (blk_cell BK493.out 5).trans rfl, (blk_cell BK493.out 6).trans rfl, (blk_cell BK493.out 7).trans rfl, (blk_cell BK493.out 8).trans rfl⟩ (fun hHeld => ?_)
    clear hK K
    refine norm_ (a' := ?_) ?_ ?_
    rotate_left
    · show Act.put _ (some 31) _ = _
      simp only [Act.put, List.setIfInBounds_toArray, List.set_cons_zero, List.set_cons_succ, i64_w, i32_w]
      rfl
    refine pure_ (i := 28) (N := some 32) (v := ?_) (a' := ?_) #[true, true, true, true, true, true, true, true, true, true, true, true, true, true, true, true, true, true, true, true, true, true, true, true, true, true, true, true, true, false] rfl rfl (any_of HT_.out (by kernel_rfl)) (fun _ _ _ h => h) (Or.inl ⟨by rfl, ?_⟩) ?_ ?_
    rotate_left
    · intro w'
      go_simp
      with_reducible rfl
    rotate_left
    · simp only [Act.put, List.setIfInBounds_toArray, List.set_cons_zero, List.set_cons_succ, i64_w, i32_w]
      rfl
    refine pure_ (i := 29) (N := some 3) (v := ?_) (a' := ?_) #[true, true, true, true, true, true, true, true, true, true, true, true, true, true, true, true, true, true, true, true, true, true, true, true, true, true, true, true, true, true] rfl rfl (any_of HT_.out (by kernel_rfl)) (fun _ _ _ h => h) (Or.inl ⟨by rfl, ?_⟩) ?_ ?_
    rotate_left
    · intro w'
      go_simp
      with_reducible rfl
    rotate_left
    · simp only [Act.put, List.setIfInBounds_toArray, List.set_cons_zero, List.set_cons_succ, i64_w, i32_w]
      rfl
    refine done_ (done_of HT_.out (by kernel_rfl)) ?_
    have hcz29_0 : w28.cell? ⟨gb493, 0, none⟩ = some (.int .i64 a0_0) := (blk_cell BK493.out 0).trans rfl
    have hcz29_1 : w28.cell? ⟨gb493, 1, none⟩ = some (.int .i64 a0_1) := (blk_cell BK493.out 1).trans rfl
    have hcz29_2 : w28.cell? ⟨gb493, 2, none⟩ = some (.int .i64 a0_2) := (blk_cell BK493.out 2).trans rfl
    have hcz29_3 : w28.cell? ⟨gb493, 3, none⟩ = some (.int .i64 a0_3) := (blk_cell BK493.out 3).trans rfl
    have hcz29_4 : w28.cell? ⟨gb493, 4, none⟩ = some (.int .i64 a0_4) := (blk_cell BK493.out 4).trans rfl
    have hcz29_5 : w28.cell? ⟨gb493, 5, none⟩ = some (.int .i64 a0_5) := (blk_cell BK493.out 5).trans rfl
    have hcz29_6 : w28.cell? ⟨gb493, 6, none⟩ = some (.int .i64 a0_6) := (blk_cell BK493.out 6).trans rfl
    have hcz29_7 : w28.cell? ⟨gb493, 7, none⟩ = some (.slice A0_7 l0_7.length c0_7) := (blk_cell BK493.out 7).trans rfl
    have hcz29_8 : w28.cell? ⟨gb493, 8, none⟩ = some (.slice A0_8 l0_8.length c0_8) := (blk_cell BK493.out 8).trans rfl
    have hfz29_0 := blk_frozen BK493.out 0
    have hfz29_1 := blk_frozen BK493.out 1
    have hfz29_2 := blk_frozen BK493.out 2
    have hfz29_3 := blk_frozen BK493.out 3
    have hfz29_4 := blk_frozen BK493.out 4
    have hfz29_5 := blk_frozen BK493.out 5
    have hfz29_6 := blk_frozen BK493.out 6
    have hfz29_7 := blk_frozen BK493.out 7
    have hfz29_8 := blk_frozen BK493.out 8
    by_cases w1 : a0_6 = 1
    · have d1 : (a0_6 == 1) = true := beq_iff_eq.mpr w1
      (try go_wp2)
      go_ret
      exact ⟨by rw [← HR_.out]; unfold sessions_Format.line; rw [if_pos w1]; unfold sessions_Format.base; rw [← Et494.out, ← Et495.out, ← Et496.out, ← Et497.out, ← Et498.out, ← Et499.out]; rfl, by repeat (first | (with_reducible first | exact HB.out | apply below_alloc | apply pw_below_drewN | apply below_drew1 | refine below_set ?_ GE493.out) | exact HB.out)⟩
    by_cases w2 : a0_6 = 2
    · have d1 : (a0_6 == 1) = false := beq_eq_false_iff_ne.mpr w1
      have d2 : (a0_6 == 2) = true := beq_iff_eq.mpr w2
      (try go_wp2)
      go_ret
      exact ⟨by rw [← HR_.out]; unfold sessions_Format.line; rw [if_neg w1]; rw [if_pos w2]; unfold sessions_Format.base; rw [← Et494.out, ← Et495.out, ← Et496.out, ← Et497.out, ← Et498.out, ← Et499.out]; rfl, by repeat (first | (with_reducible first | exact HB.out | apply below_alloc | apply pw_below_drewN | apply below_drew1 | refine below_set ?_ GE493.out) | exact HB.out)⟩
    by_cases w3 : a0_6 = 3
    · have d1 : (a0_6 == 1) = false := beq_eq_false_iff_ne.mpr w1
      have d2 : (a0_6 == 2) = false := beq_eq_false_iff_ne.mpr w2
      have d3 : (a0_6 == 3) = true := beq_iff_eq.mpr w3
      (try go_wp2)
      go_ret
      exact ⟨by rw [← HR_.out]; unfold sessions_Format.line; rw [if_neg w1]; rw [if_neg w2]; rw [if_pos w3]; unfold sessions_Format.base; rw [← Et494.out, ← Et495.out, ← Et496.out, ← Et497.out, ← Et498.out, ← Et499.out]; rfl, by repeat (first | (with_reducible first | exact HB.out | apply below_alloc | apply pw_below_drewN | apply below_drew1 | refine below_set ?_ GE493.out) | exact HB.out)⟩
    have d1 : (a0_6 == 1) = false := beq_eq_false_iff_ne.mpr w1
    have d2 : (a0_6 == 2) = false := beq_eq_false_iff_ne.mpr w2
    have d3 : (a0_6 == 3) = false := beq_eq_false_iff_ne.mpr w3
    (try go_wp2)
    go_ret
    exact ⟨by rw [← HR_.out]; unfold sessions_Format.line; rw [if_neg w1]; rw [if_neg w2]; rw [if_neg w3]; unfold sessions_Format.base; rw [← Et494.out, ← Et495.out, ← Et496.out, ← Et497.out, ← Et498.out, ← Et499.out]; rfl, by repeat (first | (with_reducible first | exact HB.out | apply below_alloc | apply pw_below_drewN | apply below_drew1 | refine below_set ?_ GE493.out) | exact HB.out)⟩
  · rw [if_neg hall] at h
    cases h

/-! ### kauditlaw41_begun: function 10 -/
def kauditlaw41_begun.g (k : Nat)  : Option (Bool) := (kauditlaw41_act.f 1 (⟨#[102, 111, 114, 107]⟩ : ByteArray) 5 3 7 0 0 (⟨#[121, 101, 115]⟩ : ByteArray)).bind fun bt493 => ((kauditlaw41_act.f 2 (⟨#[101, 120, 105, 116]⟩ : ByteArray) 5 3 0 0 0 (⟨#[121, 101, 115]⟩ : ByteArray)).bind fun bt500 => ((sessions_Of.f k (([(⟨bt493.1, bt493.2.1, bt493.2.2.1, bt493.2.2.2.1, bt493.2.2.2.2⟩ : S34), (⟨bt500.1, bt500.2.1, bt500.2.2.1, bt500.2.2.2.1, bt500.2.2.2.2⟩ : S34)] : List (S34))) 1 false).bind fun t510 => (if (t510.length : Int) = 1 then (if 0 < (t510.length : Int) then (if ((rd_T31 t510 0).f0) = 3 then (if ((rd_T31 t510 0).f6) = 1 then (if (((rd_T31 t510 0).f8).length : Int) = 1 then (if 0 < (((rd_T31 t510 0).f8).length : Int) then (if (rd ((rd_T31 t510 0).f8) 0) = 7 then ((sessions_Format.f ((rd_T31 t510 0).f0) ((rd_T31 t510 0).f1) ((rd_T31 t510 0).f2) ((rd_T31 t510 0).f3) ((rd_T31 t510 0).f4) ((rd_T31 t510 0).f5) ((rd_T31 t510 0).f6) ((rd_T31 t510 0).f7) ((rd_T31 t510 0).f8)).bind fun t519 => (some (t519.toList == ([115, 101, 115, 115, 105, 111, 110, 32, 51, 32, 97, 117, 105, 100, 32, 55, 32, 101, 118, 101, 110, 116, 115, 32, 50, 32, 102, 97, 105, 108, 101, 100, 32, 48, 32, 102, 114, 111, 109, 32, 49, 32, 116, 111, 32, 50, 32, 111, 112, 101, 110] : List UInt8)))) else (some false)) else (none)) else (some false)) else (some false)) else (some false)) else (none)) else (some false))))
set_option maxHeartbeats 8000000 in
set_option maxRecDepth 100000 in
theorem kauditlaw41_begun.callsT (k : Nat)  (r : Bool) (w : World) (hT : TabOk w) (h : kauditlaw41_begun.g k  = some r) (hr_ : Aside0 (r = true)) :
    Calls Tryd.prog 10 #[] w fun e w' => e = .returned (.bool r) ∧ Below w.heap.size w w' := by
  have hu31 := Tryd.underlying31
  have HT := Aside0.mk hT
  clear hT
  have HB := Aside0.mk (Below.refl w.heap.size w)
  have H : ((kauditlaw41_act.f 1 (⟨#[102, 111, 114, 107]⟩ : ByteArray) 5 3 7 0 0 (⟨#[121, 101, 115]⟩ : ByteArray)).bind fun bt493 => ((kauditlaw41_act.f 2 (⟨#[101, 120, 105, 116]⟩ : ByteArray) 5 3 0 0 0 (⟨#[121, 101, 115]⟩ : ByteArray)).bind fun bt500 => ((sessions_Of.f k (([(⟨bt493.1, bt493.2.1, bt493.2.2.1, bt493.2.2.2.1, bt493.2.2.2.2⟩ : S34), (⟨bt500.1, bt500.2.1, bt500.2.2.1, bt500.2.2.2.1, bt500.2.2.2.2⟩ : S34)] : List (S34))) 1 false).bind fun t510 => (if (t510.length : Int) = 1 then (if 0 < (t510.length : Int) then (if ((rd_T31 t510 0).f0) = 3 then (if ((rd_T31 t510 0).f6) = 1 then (if (((rd_T31 t510 0).f8).length : Int) = 1 then (if 0 < (((rd_T31 t510 0).f8).length : Int) then (if (rd ((rd_T31 t510 0).f8) 0) = 7 then ((sessions_Format.f ((rd_T31 t510 0).f0) ((rd_T31 t510 0).f1) ((rd_T31 t510 0).f2) ((rd_T31 t510 0).f3) ((rd_T31 t510 0).f4) ((rd_T31 t510 0).f5) ((rd_T31 t510 0).f6) ((rd_T31 t510 0).f7) ((rd_T31 t510 0).f8)).bind fun t519 => (some (t519.toList == ([115, 101, 115, 115, 105, 111, 110, 32, 51, 32, 97, 117, 105, 100, 32, 55, 32, 101, 118, 101, 110, 116, 115, 32, 50, 32, 102, 97, 105, 108, 101, 100, 32, 48, 32, 102, 114, 111, 109, 32, 49, 32, 116, 111, 32, 50, 32, 111, 112, 101, 110] : List UInt8)))) else (some false)) else (none)) else (some false)) else (some false)) else (some false)) else (none)) else (some false))))) = some r := h
  clear h
  replace H := Option.bind_eq_some_iff.mp H
  obtain ⟨⟨t493, t494, t495, t496, t499⟩, A10, H⟩ := H
  replace H : ((kauditlaw41_act.f 2 (⟨#[101, 120, 105, 116]⟩ : ByteArray) 5 3 0 0 0 (⟨#[121, 101, 115]⟩ : ByteArray)).bind fun bt500 => ((sessions_Of.f k (([(⟨t493, t494, t495, t496, t499⟩ : S34), (⟨bt500.1, bt500.2.1, bt500.2.2.1, bt500.2.2.2.1, bt500.2.2.2.2⟩ : S34)] : List (S34))) 1 false).bind fun t510 => (if (t510.length : Int) = 1 then (if 0 < (t510.length : Int) then (if ((rd_T31 t510 0).f0) = 3 then (if ((rd_T31 t510 0).f6) = 1 then (if (((rd_T31 t510 0).f8).length : Int) = 1 then (if 0 < (((rd_T31 t510 0).f8).length : Int) then (if (rd ((rd_T31 t510 0).f8) 0) = 7 then ((sessions_Format.f ((rd_T31 t510 0).f0) ((rd_T31 t510 0).f1) ((rd_T31 t510 0).f2) ((rd_T31 t510 0).f3) ((rd_T31 t510 0).f4) ((rd_T31 t510 0).f5) ((rd_T31 t510 0).f6) ((rd_T31 t510 0).f7) ((rd_T31 t510 0).f8)).bind fun t519 => (some (t519.toList == ([115, 101, 115, 115, 105, 111, 110, 32, 51, 32, 97, 117, 105, 100, 32, 55, 32, 101, 118, 101, 110, 116, 115, 32, 50, 32, 102, 97, 105, 108, 101, 100, 32, 48, 32, 102, 114, 111, 109, 32, 49, 32, 116, 111, 32, 50, 32, 111, 112, 101, 110] : List UInt8)))) else (some false)) else (none)) else (some false)) else (some false)) else (some false)) else (none)) else (some false)))) = some r := H
  have A1 := Aside0.mk A10
  clear A10
  replace H := Option.bind_eq_some_iff.mp H
  obtain ⟨⟨t500, t501, t502, t503, t506⟩, A20, H⟩ := H
  replace H : ((sessions_Of.f k (([(⟨t493, t494, t495, t496, t499⟩ : S34), (⟨t500, t501, t502, t503, t506⟩ : S34)] : List (S34))) 1 false).bind fun t510 => (if (t510.length : Int) = 1 then (if 0 < (t510.length : Int) then (if ((rd_T31 t510 0).f0) = 3 then (if ((rd_T31 t510 0).f6) = 1 then (if (((rd_T31 t510 0).f8).length : Int) = 1 then (if 0 < (((rd_T31 t510 0).f8).length : Int) then (if (rd ((rd_T31 t510 0).f8) 0) = 7 then ((sessions_Format.f ((rd_T31 t510 0).f0) ((rd_T31 t510 0).f1) ((rd_T31 t510 0).f2) ((rd_T31 t510 0).f3) ((rd_T31 t510 0).f4) ((rd_T31 t510 0).f5) ((rd_T31 t510 0).f6) ((rd_T31 t510 0).f7) ((rd_T31 t510 0).f8)).bind fun t519 => (some (t519.toList == ([115, 101, 115, 115, 105, 111, 110, 32, 51, 32, 97, 117, 105, 100, 32, 55, 32, 101, 118, 101, 110, 116, 115, 32, 50, 32, 102, 97, 105, 108, 101, 100, 32, 48, 32, 102, 114, 111, 109, 32, 49, 32, 116, 111, 32, 50, 32, 111, 112, 101, 110] : List UInt8)))) else (some false)) else (none)) else (some false)) else (some false)) else (some false)) else (none)) else (some false))) = some r := H
  have A2 := Aside0.mk A20
  clear A20
  obtain ⟨y507, hy507⟩ : ∃ y_ : List (S34), y_ = (([(⟨t493, t494, t495, t496, t499⟩ : S34), (⟨t500, t501, t502, t503, t506⟩ : S34)] : List (S34))) := ⟨_, rfl⟩
  replace H : ((sessions_Of.f k y507 1 false).bind fun t510 => (if (t510.length : Int) = 1 then (if 0 < (t510.length : Int) then (if ((rd_T31 t510 0).f0) = 3 then (if ((rd_T31 t510 0).f6) = 1 then (if (((rd_T31 t510 0).f8).length : Int) = 1 then (if 0 < (((rd_T31 t510 0).f8).length : Int) then (if (rd ((rd_T31 t510 0).f8) 0) = 7 then ((sessions_Format.f ((rd_T31 t510 0).f0) ((rd_T31 t510 0).f1) ((rd_T31 t510 0).f2) ((rd_T31 t510 0).f3) ((rd_T31 t510 0).f4) ((rd_T31 t510 0).f5) ((rd_T31 t510 0).f6) ((rd_T31 t510 0).f7) ((rd_T31 t510 0).f8)).bind fun t519 => (some (t519.toList == ([115, 101, 115, 115, 105, 111, 110, 32, 51, 32, 97, 117, 105, 100, 32, 55, 32, 101, 118, 101, 110, 116, 115, 32, 50, 32, 102, 97, 105, 108, 101, 100, 32, 48, 32, 102, 114, 111, 109, 32, 49, 32, 116, 111, 32, 50, 32, 111, 112, 101, 110] : List UInt8)))) else (some false)) else (none)) else (some false)) else (some false)) else (some false)) else (none)) else (some false))) = some r := by first | (rw [hy507]; with_reducible exact H) | (have H2_ := (Option.bind_some _ _).symm.trans H; rw [hy507]; with_reducible exact H2_) | (have H2_ := (Option.bind_some _ _).symm.trans H; with_reducible exact H2_) | with_reducible exact H | (rw [hy507]; exact H) | exact H
  have Ny507 := Aside0.mk hy507
  clear hy507
  replace H := Option.bind_eq_some_iff.mp H
  obtain ⟨t510, A30, H⟩ := H
  replace H : (if (t510.length : Int) = 1 then (if 0 < (t510.length : Int) then (if ((rd_T31 t510 0).f0) = 3 then (if ((rd_T31 t510 0).f6) = 1 then (if (((rd_T31 t510 0).f8).length : Int) = 1 then (if 0 < (((rd_T31 t510 0).f8).length : Int) then (if (rd ((rd_T31 t510 0).f8) 0) = 7 then ((sessions_Format.f ((rd_T31 t510 0).f0) ((rd_T31 t510 0).f1) ((rd_T31 t510 0).f2) ((rd_T31 t510 0).f3) ((rd_T31 t510 0).f4) ((rd_T31 t510 0).f5) ((rd_T31 t510 0).f6) ((rd_T31 t510 0).f7) ((rd_T31 t510 0).f8)).bind fun t519 => (some (t519.toList == ([115, 101, 115, 115, 105, 111, 110, 32, 51, 32, 97, 117, 105, 100, 32, 55, 32, 101, 118, 101, 110, 116, 115, 32, 50, 32, 102, 97, 105, 108, 101, 100, 32, 48, 32, 102, 114, 111, 109, 32, 49, 32, 116, 111, 32, 50, 32, 111, 112, 101, 110] : List UInt8)))) else (some false)) else (none)) else (some false)) else (some false)) else (some false)) else (none)) else (some false)) = some r := H
  have A3 := Aside0.mk A30
  clear A30
  by_cases c4 : (t510.length : Int) = 1
  · rw [if_pos c4] at H
    have c4b0 : ((t510.length : Int) == 1) = true := beq_iff_eq.mpr c4
    have c4b1 : ((t510.length : Int) != 1) = false := bne_eq_false_iff_eq.mpr c4
    clear c4
    by_cases c5 : 0 < (t510.length : Int)
    · rw [if_pos c5] at H
      have c5b0 : decide (0 < (t510.length : Int)) = true := decide_eq_true c5
      have c5b1 : decide (0 < t510.length) = true := decide_eq_true (by omega)
      clear c5
      by_cases c6 : ((rd_T31 t510 0).f0) = 3
      · rw [if_pos c6] at H
        have c6b0 : (((rd_T31 t510 0).f0) == 3) = true := beq_iff_eq.mpr c6
        have c6b1 : (((rd_T31 t510 0).f0) != 3) = false := bne_eq_false_iff_eq.mpr c6
        clear c6
        by_cases c7 : ((rd_T31 t510 0).f6) = 1
        · rw [if_pos c7] at H
          have c7b0 : (((rd_T31 t510 0).f6) == 1) = true := beq_iff_eq.mpr c7
          have c7b1 : (((rd_T31 t510 0).f6) != 1) = false := bne_eq_false_iff_eq.mpr c7
          clear c7
          by_cases c8 : (((rd_T31 t510 0).f8).length : Int) = 1
          · rw [if_pos c8] at H
            have c8b0 : ((((rd_T31 t510 0).f8).length : Int) == 1) = true := beq_iff_eq.mpr c8
            have c8b1 : ((((rd_T31 t510 0).f8).length : Int) != 1) = false := bne_eq_false_iff_eq.mpr c8
            clear c8
            by_cases c9 : 0 < (((rd_T31 t510 0).f8).length : Int)
            · rw [if_pos c9] at H
              have c9b0 : decide (0 < (((rd_T31 t510 0).f8).length : Int)) = true := decide_eq_true c9
              have c9b1 : decide (0 < ((rd_T31 t510 0).f8).length) = true := decide_eq_true (by omega)
              clear c9
              by_cases c10 : (rd ((rd_T31 t510 0).f8) 0) = 7
              · rw [if_pos c10] at H
                have c10b0 : ((rd ((rd_T31 t510 0).f8) 0) == 7) = true := beq_iff_eq.mpr c10
                have c10b1 : ((rd ((rd_T31 t510 0).f8) 0) != 7) = false := bne_eq_false_iff_eq.mpr c10
                clear c10
                replace H := Option.bind_eq_some_iff.mp H
                obtain ⟨t519, A110, H⟩ := H
                replace H : (some (t519.toList == ([115, 101, 115, 115, 105, 111, 110, 32, 51, 32, 97, 117, 105, 100, 32, 55, 32, 101, 118, 101, 110, 116, 115, 32, 50, 32, 102, 97, 105, 108, 101, 100, 32, 48, 32, 102, 114, 111, 109, 32, 49, 32, 116, 111, 32, 50, 32, 111, 112, 101, 110] : List UInt8))) = some r := H
                have A11 := Aside0.mk A110
                clear A110
                obtain rfl := Option.some.inj H
                go_enter Tryd.func10, Tryd.ntmps10
                go_wp2_with (first | ((with_reducible refine gate_callee (f := 9) rfl ?_); refine goesL_ (some 2) rfl rfl Tryd.func9 (by kernel_rfl) rfl #[.int .i64 1, .string (⟨#[102, 111, 114, 107]⟩ : ByteArray), .int .i64 5, .int .i64 3, .int .i64 7, .int .i64 0, .int .i64 0, .string (⟨#[121, 101, 115]⟩ : ByteArray)] rfl (qrQx6_2) ?_; (with_reducible refine (kauditlaw41_act.calls 1 (⟨#[102, 111, 114, 107]⟩ : ByteArray) 5 3 7 0 0 (⟨#[121, 101, 115]⟩ : ByteArray) t493 t494 t495 t496 t499 _ A1.out).mono ?_); rintro e w12 ⟨v497, rfl, ho0, hb⟩; refine ⟨_, rfl, ?_⟩; have n0_ := Aside0.mk (Kd.N_lower (Kd.N_mono (ok' := fun k_ => True) ho0 (fun k_ hk_ => trivial)) (below_size (qrQx6_1))); have n1_ := Aside0.mk (below_step (qrQx6_1) hb); clear HB; have HO498 := n0_; have HB := n1_; clear n0_ n1_; (try clear hb); (try clear hb2); (try clear hk); (try clear hi); (try clear ho0)) | ((with_reducible refine gate_callee (f := 9) rfl ?_); refine goesL_ (some 3) rfl rfl Tryd.func9 (by kernel_rfl) rfl #[.int .i64 2, .string (⟨#[101, 120, 105, 116]⟩ : ByteArray), .int .i64 5, .int .i64 3, .int .i64 0, .int .i64 0, .int .i64 0, .string (⟨#[121, 101, 115]⟩ : ByteArray)] rfl (qrQx6_2) ?_; (with_reducible refine (kauditlaw41_act.calls 2 (⟨#[101, 120, 105, 116]⟩ : ByteArray) 5 3 0 0 0 (⟨#[121, 101, 115]⟩ : ByteArray) t500 t501 t502 t503 t506 _ A2.out).mono ?_); rintro e w13 ⟨v504, rfl, ho0, hb⟩; refine ⟨_, rfl, ?_⟩; have n0_ := Aside0.mk (Kd.N_elder' (by (with_reducible repeat (first | apply Kd.N_alloc | apply Kd.N_drewN | apply Kd.N_drew)); exact HO498.out) (by first | exact Kd.N_base ho0 | exact Kd.S_base ho0) hb); have n1_ := Aside0.mk (Kd.N_lower (Kd.N_mono (ok' := fun k_ => some k_ ≠ (v497 : Value).ownBlock) ho0 (fun k_ hk_ => (Kd.fresh' (Kd.N_lt (by (with_reducible repeat (first | apply Kd.N_alloc | apply Kd.N_drewN | apply Kd.N_drew)); exact HO498.out)) k_ hk_))) (below_size (qrQx6_1))); have n2_ := Aside0.mk (below_step (qrQx6_1) hb); clear HO498; clear HB; have HO498 := n0_; have HO505 := n1_; have HB := n2_; clear n0_ n1_ n2_; (try clear hb); (try clear hb2); (try clear hk); (try clear hi); (try clear ho0); obtain ⟨Ao14, co14, eo14⟩ := Kd.N_slice HO498.out; subst eo14; obtain ⟨Ao15, co15, eo15⟩ := Kd.N_slice HO505.out; subst eo15) | ((with_reducible refine gate_dst (N := 4) rfl ?_); (try (refine gate_guard (by rfl) ?_; dsimp only)); refine Kd.N_lit k34 _ 34 ?hg (N' := 4) ?hd (xs := ([(⟨t493, t494, t495, t496, t499⟩ : S34), (⟨t500, t501, t502, t503, t506⟩ : S34)] : List (S34))) (inner := [.int .i64 t493, .int .i64 t494, .int .i64 t495, .slice Ao14 t496.length co14, .bool t499, .int .i64 t500, .int .i64 t501, .int .i64 t502, .slice Ao15 t503.length co15, .bool t506]) (ok := (fun _ => True)) (okp := (fun _ => True)) ?hr ?hp (fun _ hk => hk) ((show ∀ k_, w13.heap.size ≤ k_ → (fun _ => True) k_ from fun k_ hk => trivial) _ (Nat.le_refl _)) (Below.refl _ _) (Nat.le_refl _) (by simp) ?_; (case hd => rfl); (case hg => rfl); (case hr => first | (go_simp; done) | (go_simp; rfl)); (case hp => exact (Reps.c5 (show Kd.FK k34 _ _ (⟨t493, t494, t495, t496, t499⟩ : S34) [.int .i64 t493, .int .i64 t494, .int .i64 t495, .slice Ao14 t496.length co14, .bool t499] from (k34_mkF _ _ (⟨t493, t494, t495, t496, t499⟩ : S34) (Kd.N_reads' (Kd.N_mono (ok' := (fun _ => True)) (HO498.out) (fun k_ hk => trivial))).2.1 (Kd.N_F (Kd.N_mono (ok' := (fun _ => True)) (HO498.out) (fun k_ hk => trivial))))) (Reps.c5 (show Kd.FK k34 _ _ (⟨t500, t501, t502, t503, t506⟩ : S34) [.int .i64 t500, .int .i64 t501, .int .i64 t502, .slice Ao15 t503.length co15, .bool t506] from (k34_mkF _ _ (⟨t500, t501, t502, t503, t506⟩ : S34) (Kd.N_reads' (Kd.N_mono (ok' := (fun _ => True)) (HO505.out) (fun k_ hk => trivial))).2.1 (Kd.N_F (Kd.N_mono (ok' := (fun _ => True)) (HO505.out) (fun k_ hk => trivial))))) (Reps.none _ _)))); intro v508 w16 ho17 hb hg_ hnew_; clear hg_ hnew_; (first | rw [← Ny507.out] at ho17 | (simp only [Int.reduceToNat] at ho17; rw [← Ny507.out] at ho17)); have n0_ := Aside0.mk (Kd.N_lower ho17 (below_size (qrQx6_1))); have n1_ := Aside0.mk (below_step (qrQx6_1) hb); clear HB; clear HO498; clear HO505; have HO509 := n0_; have HB := n1_; clear n0_ n1_; clear hb ho17; obtain ⟨Ao18, co18, eo18⟩ := Kd.N_slice HO509.out; subst eo18) | ((with_reducible refine gate_callee (f := 8) rfl ?_); refine goesL_ (some 5) rfl rfl Tryd.func8 (by kernel_rfl) rfl #[.slice Ao18 y507.length co18, .int .i64 1, .bool false] rfl (qrQx6_2) ?_; (with_reducible refine (sessions_Of.calls k _ _ y507 1 false t510 _ ?side1 ?side2 A3.out).mono ?_); (case side1 => repeat (first | exact (Kd.N_reads' HO509.out).2.2 | (with_reducible refine Kd.C_alloc ?_ _) | (with_reducible refine Kd.C_drewN ?_ _) | (with_reducible refine Kd.C_drew ?_))); (case side2 => exact (Kd.N_reads' HO509.out).2.1); rintro e w19 ⟨v511, rfl, ho0, hb⟩; refine ⟨_, rfl, ?_⟩; have n0_ := Aside0.mk (Kd.N_elder' (qrQx6_5) (by first | exact Kd.N_base ho0 | exact Kd.S_base ho0) hb); have n1_ := Aside0.mk (Kd.N_lower (Kd.N_mono (ok' := fun k_ => some k_ ≠ (.slice Ao18 y507.length co18 : Value).ownBlock) (Kd.S_N (Kd.S_bound ho0)) (fun k_ hk_ => (Kd.fresh' (Kd.N_lt (qrQx6_5)) k_ hk_.2.1))) (below_size (qrQx6_1))); have n2_ := Aside0.mk (below_step (qrQx6_1) hb); clear HO509; clear HB; have HO509 := n0_; have HO512 := n1_; have HB := n2_; clear n0_ n1_ n2_; (try clear hb); (try clear hb2); (try clear hk); (try clear hi); (try clear ho0); obtain ⟨Ao20, co20, eo20⟩ := Kd.N_slice HO512.out; subst eo20; have p513 : 0 ≤ (0 : Int) := (by omega); have q513 : 0 < (t510.length : Int) := of_decide_eq_true (qrQx6_4); obtain ⟨ad513, A513_7, c513_7, A513_8, c513_8, e513, hx513_0, hx513_1, hx513_2, hx513_3, hx513_4, hx513_5, hx513_6, hx513_7, hx513_8, hl513_7, hi513_7, hl513_8, hi513_8⟩ := at_T31 (Kd.N_reads' HO512.out).2.2 0 p513 q513; cases e513; obtain ⟨ce513, hce513, hMe513, hcc513⟩ := Kd.N_get HO512.out z31 0 p513 (by first | exact q513 | exact of_decide_eq_true (qrQx6_4) | (have e_ := (Kd.N_reads' HO512.out).1; omega)); obtain ⟨ua513_7, uc513_7, ua513_8, uc513_8, rfl, ul513_7, ge513_7, ul513_8, ge513_8⟩ := k31_openF hMe513; have hv513_7 := hcc513 7 _ rfl; rw [add_field _ _ 7 (by omega)] at hv513_7; replace hv513_7 := Option.some.inj (hv513_7.symm.trans hx513_7); injection hv513_7 with hva_ hvn_ hvc_; rw [hva_] at ge513_7; rw [hvc_] at ul513_7; have HL513_7 := Aside0.mk (show Kd.V (Kd.int .i64) 3 _ w.heap.size _ _ ((rd_T31 t510 0).f7) from Kd.V_mk ul513_7 ge513_7); clear hva_ hvn_ hvc_ ge513_7 ul513_7; have hv513_8 := hcc513 8 _ rfl; rw [add_field _ _ 8 (by omega)] at hv513_8; replace hv513_8 := Option.some.inj (hv513_8.symm.trans hx513_8); injection hv513_8 with hva_ hvn_ hvc_; rw [hva_] at ge513_8; rw [hvc_] at ul513_8; have HL513_8 := Aside0.mk (show Kd.V (Kd.int .i64) 3 _ w.heap.size _ _ ((rd_T31 t510 0).f8) from Kd.V_mk ul513_8 ge513_8); clear hva_ hvn_ hvc_ ge513_8 ul513_8; clear hcc513 hce513; have qi513 : (0 < t510.length) = True := eq_true (by omega); (try rw [show ((0 : Int)).toNat = 0 from rfl] at hx513_0); (try rw [show 0 * 9 = 0 from rfl] at hx513_0); (try rw [Addr.add_zero'] at hx513_0); (try rw [show ((0 : Int)).toNat = 0 from rfl] at hx513_1); (try rw [show 0 * 9 = 0 from rfl] at hx513_1); (try rw [Addr.add_zero'] at hx513_1); (try rw [show ((0 : Int)).toNat = 0 from rfl] at hx513_2); (try rw [show 0 * 9 = 0 from rfl] at hx513_2); (try rw [Addr.add_zero'] at hx513_2); (try rw [show ((0 : Int)).toNat = 0 from rfl] at hx513_3); (try rw [show 0 * 9 = 0 from rfl] at hx513_3); (try rw [Addr.add_zero'] at hx513_3); (try rw [show ((0 : Int)).toNat = 0 from rfl] at hx513_4); (try rw [show 0 * 9 = 0 from rfl] at hx513_4); (try rw [Addr.add_zero'] at hx513_4); (try rw [show ((0 : Int)).toNat = 0 from rfl] at hx513_5); (try rw [show 0 * 9 = 0 from rfl] at hx513_5); (try rw [Addr.add_zero'] at hx513_5); (try rw [show ((0 : Int)).toNat = 0 from rfl] at hx513_6); (try rw [show 0 * 9 = 0 from rfl] at hx513_6); (try rw [Addr.add_zero'] at hx513_6); (try rw [show ((0 : Int)).toNat = 0 from rfl] at hx513_7); (try rw [show 0 * 9 = 0 from rfl] at hx513_7); (try rw [Addr.add_zero'] at hx513_7); (try rw [show ((0 : Int)).toNat = 0 from rfl] at hx513_8); (try rw [show 0 * 9 = 0 from rfl] at hx513_8); (try rw [Addr.add_zero'] at hx513_8); have HR513_7 := Aside0.mk hi513_7; have HC513_7 := Aside0.mk hl513_7; clear hi513_7 hl513_7; have HR513_8 := Aside0.mk hi513_8; have HC513_8 := Aside0.mk hl513_8; clear hi513_8 hl513_8; replace p513 := eq_true p513; replace q513 := eq_true q513; have p514 : 0 ≤ (0 : Int) := (by omega); have q514 : 0 < (t510.length : Int) := of_decide_eq_true (qrQx6_4); obtain ⟨ad514, A514_7, c514_7, A514_8, c514_8, e514, hx514_0, hx514_1, hx514_2, hx514_3, hx514_4, hx514_5, hx514_6, hx514_7, hx514_8, hl514_7, hi514_7, hl514_8, hi514_8⟩ := at_T31 (Kd.N_reads' HO512.out).2.2 0 p514 q514; obtain rfl : ad513 = ad514 := (by injection e514); obtain ⟨ce514, hce514, hMe514, hcc514⟩ := Kd.N_get HO512.out z31 0 p514 (by first | exact q514 | exact of_decide_eq_true (qrQx6_4) | (have e_ := (Kd.N_reads' HO512.out).1; omega)); obtain ⟨ua514_7, uc514_7, ua514_8, uc514_8, rfl, ul514_7, ge514_7, ul514_8, ge514_8⟩ := k31_openF hMe514; have hv514_7 := hcc514 7 _ rfl; rw [add_field _ _ 7 (by omega)] at hv514_7; replace hv514_7 := Option.some.inj (hv514_7.symm.trans hx514_7); injection hv514_7 with hva_ hvn_ hvc_; rw [hva_] at ge514_7; rw [hvc_] at ul514_7; have HL514_7 := Aside0.mk (show Kd.V (Kd.int .i64) 3 _ w.heap.size _ _ ((rd_T31 t510 0).f7) from Kd.V_mk ul514_7 ge514_7); clear hva_ hvn_ hvc_ ge514_7 ul514_7; have hv514_8 := hcc514 8 _ rfl; rw [add_field _ _ 8 (by omega)] at hv514_8; replace hv514_8 := Option.some.inj (hv514_8.symm.trans hx514_8); injection hv514_8 with hva_ hvn_ hvc_; rw [hva_] at ge514_8; rw [hvc_] at ul514_8; have HL514_8 := Aside0.mk (show Kd.V (Kd.int .i64) 3 _ w.heap.size _ _ ((rd_T31 t510 0).f8) from Kd.V_mk ul514_8 ge514_8); clear hva_ hvn_ hvc_ ge514_8 ul514_8; clear hcc514 hce514; have qi514 : (0 < t510.length) = True := eq_true (by omega); (try rw [show ((0 : Int)).toNat = 0 from rfl] at hx514_0); (try rw [show 0 * 9 = 0 from rfl] at hx514_0); (try rw [Addr.add_zero'] at hx514_0); (try rw [show ((0 : Int)).toNat = 0 from rfl] at hx514_1); (try rw [show 0 * 9 = 0 from rfl] at hx514_1); (try rw [Addr.add_zero'] at hx514_1); (try rw [show ((0 : Int)).toNat = 0 from rfl] at hx514_2); (try rw [show 0 * 9 = 0 from rfl] at hx514_2); (try rw [Addr.add_zero'] at hx514_2); (try rw [show ((0 : Int)).toNat = 0 from rfl] at hx514_3); (try rw [show 0 * 9 = 0 from rfl] at hx514_3); (try rw [Addr.add_zero'] at hx514_3); (try rw [show ((0 : Int)).toNat = 0 from rfl] at hx514_4); (try rw [show 0 * 9 = 0 from rfl] at hx514_4); (try rw [Addr.add_zero'] at hx514_4); (try rw [show ((0 : Int)).toNat = 0 from rfl] at hx514_5); (try rw [show 0 * 9 = 0 from rfl] at hx514_5); (try rw [Addr.add_zero'] at hx514_5); (try rw [show ((0 : Int)).toNat = 0 from rfl] at hx514_6); (try rw [show 0 * 9 = 0 from rfl] at hx514_6); (try rw [Addr.add_zero'] at hx514_6); (try rw [show ((0 : Int)).toNat = 0 from rfl] at hx514_7); (try rw [show 0 * 9 = 0 from rfl] at hx514_7); (try rw [Addr.add_zero'] at hx514_7); (try rw [show ((0 : Int)).toNat = 0 from rfl] at hx514_8); (try rw [show 0 * 9 = 0 from rfl] at hx514_8); (try rw [Addr.add_zero'] at hx514_8); have HR514_7 := Aside0.mk hi514_7; have HC514_7 := Aside0.mk hl514_7; clear hi514_7 hl514_7; have HR514_8 := Aside0.mk hi514_8; have HC514_8 := Aside0.mk hl514_8; clear hi514_8 hl514_8; replace p514 := eq_true p514; replace q514 := eq_true q514; have ea_ := Option.some.inj (hx513_7.symm.trans hx514_7); injection ea_ with ea_ en_ ec_; subst ea_; subst ec_; clear en_; have ea_ := Option.some.inj (hx513_8.symm.trans hx514_8); injection ea_ with ea_ en_ ec_; subst ea_; subst ec_; clear en_; have p515 : 0 ≤ (0 : Int) := (by omega); have q515 : 0 < (t510.length : Int) := of_decide_eq_true (qrQx6_4); obtain ⟨ad515, A515_7, c515_7, A515_8, c515_8, e515, hx515_0, hx515_1, hx515_2, hx515_3, hx515_4, hx515_5, hx515_6, hx515_7, hx515_8, hl515_7, hi515_7, hl515_8, hi515_8⟩ := at_T31 (Kd.N_reads' HO512.out).2.2 0 p515 q515; obtain rfl : ad513 = ad515 := (by injection e515); obtain ⟨ce515, hce515, hMe515, hcc515⟩ := Kd.N_get HO512.out z31 0 p515 (by first | exact q515 | exact of_decide_eq_true (qrQx6_4) | (have e_ := (Kd.N_reads' HO512.out).1; omega)); obtain ⟨ua515_7, uc515_7, ua515_8, uc515_8, rfl, ul515_7, ge515_7, ul515_8, ge515_8⟩ := k31_openF hMe515; have hv515_7 := hcc515 7 _ rfl; rw [add_field _ _ 7 (by omega)] at hv515_7; replace hv515_7 := Option.some.inj (hv515_7.symm.trans hx515_7); injection hv515_7 with hva_ hvn_ hvc_; rw [hva_] at ge515_7; rw [hvc_] at ul515_7; have HL515_7 := Aside0.mk (show Kd.V (Kd.int .i64) 3 _ w.heap.size _ _ ((rd_T31 t510 0).f7) from Kd.V_mk ul515_7 ge515_7); clear hva_ hvn_ hvc_ ge515_7 ul515_7; have hv515_8 := hcc515 8 _ rfl; rw [add_field _ _ 8 (by omega)] at hv515_8; replace hv515_8 := Option.some.inj (hv515_8.symm.trans hx515_8); injection hv515_8 with hva_ hvn_ hvc_; rw [hva_] at ge515_8; rw [hvc_] at ul515_8; have HL515_8 := Aside0.mk (show Kd.V (Kd.int .i64) 3 _ w.heap.size _ _ ((rd_T31 t510 0).f8) from Kd.V_mk ul515_8 ge515_8); clear hva_ hvn_ hvc_ ge515_8 ul515_8; clear hcc515 hce515; have qi515 : (0 < t510.length) = True := eq_true (by omega); (try rw [show ((0 : Int)).toNat = 0 from rfl] at hx515_0); (try rw [show 0 * 9 = 0 from rfl] at hx515_0); (try rw [Addr.add_zero'] at hx515_0); (try rw [show ((0 : Int)).toNat = 0 from rfl] at hx515_1); (try rw [show 0 * 9 = 0 from rfl] at hx515_1); (try rw [Addr.add_zero'] at hx515_1); (try rw [show ((0 : Int)).toNat = 0 from rfl] at hx515_2); (try rw [show 0 * 9 = 0 from rfl] at hx515_2); (try rw [Addr.add_zero'] at hx515_2); (try rw [show ((0 : Int)).toNat = 0 from rfl] at hx515_3); (try rw [show 0 * 9 = 0 from rfl] at hx515_3); (try rw [Addr.add_zero'] at hx515_3); (try rw [show ((0 : Int)).toNat = 0 from rfl] at hx515_4); (try rw [show 0 * 9 = 0 from rfl] at hx515_4); (try rw [Addr.add_zero'] at hx515_4); (try rw [show ((0 : Int)).toNat = 0 from rfl] at hx515_5); (try rw [show 0 * 9 = 0 from rfl] at hx515_5); (try rw [Addr.add_zero'] at hx515_5); (try rw [show ((0 : Int)).toNat = 0 from rfl] at hx515_6); (try rw [show 0 * 9 = 0 from rfl] at hx515_6); (try rw [Addr.add_zero'] at hx515_6); (try rw [show ((0 : Int)).toNat = 0 from rfl] at hx515_7); (try rw [show 0 * 9 = 0 from rfl] at hx515_7); (try rw [Addr.add_zero'] at hx515_7); (try rw [show ((0 : Int)).toNat = 0 from rfl] at hx515_8); (try rw [show 0 * 9 = 0 from rfl] at hx515_8); (try rw [Addr.add_zero'] at hx515_8); have HR515_7 := Aside0.mk hi515_7; have HC515_7 := Aside0.mk hl515_7; clear hi515_7 hl515_7; have HR515_8 := Aside0.mk hi515_8; have HC515_8 := Aside0.mk hl515_8; clear hi515_8 hl515_8; replace p515 := eq_true p515; replace q515 := eq_true q515; have ea_ := Option.some.inj (hx513_7.symm.trans hx515_7); injection ea_ with ea_ en_ ec_; subst ea_; subst ec_; clear en_; have ea_ := Option.some.inj (hx513_8.symm.trans hx515_8); injection ea_ with ea_ en_ ec_; subst ea_; subst ec_; clear en_; have p516 : 0 ≤ (0 : Int) := (by omega); have q516 : 0 < (t510.length : Int) := of_decide_eq_true (qrQx6_4); obtain ⟨ad516, A516_7, c516_7, A516_8, c516_8, e516, hx516_0, hx516_1, hx516_2, hx516_3, hx516_4, hx516_5, hx516_6, hx516_7, hx516_8, hl516_7, hi516_7, hl516_8, hi516_8⟩ := at_T31 (Kd.N_reads' HO512.out).2.2 0 p516 q516; obtain rfl : ad513 = ad516 := (by injection e516); obtain ⟨ce516, hce516, hMe516, hcc516⟩ := Kd.N_get HO512.out z31 0 p516 (by first | exact q516 | exact of_decide_eq_true (qrQx6_4) | (have e_ := (Kd.N_reads' HO512.out).1; omega)); obtain ⟨ua516_7, uc516_7, ua516_8, uc516_8, rfl, ul516_7, ge516_7, ul516_8, ge516_8⟩ := k31_openF hMe516; have hv516_7 := hcc516 7 _ rfl; rw [add_field _ _ 7 (by omega)] at hv516_7; replace hv516_7 := Option.some.inj (hv516_7.symm.trans hx516_7); injection hv516_7 with hva_ hvn_ hvc_; rw [hva_] at ge516_7; rw [hvc_] at ul516_7; have HL516_7 := Aside0.mk (show Kd.V (Kd.int .i64) 3 _ w.heap.size _ _ ((rd_T31 t510 0).f7) from Kd.V_mk ul516_7 ge516_7); clear hva_ hvn_ hvc_ ge516_7 ul516_7; have hv516_8 := hcc516 8 _ rfl; rw [add_field _ _ 8 (by omega)] at hv516_8; replace hv516_8 := Option.some.inj (hv516_8.symm.trans hx516_8); injection hv516_8 with hva_ hvn_ hvc_; rw [hva_] at ge516_8; rw [hvc_] at ul516_8; have HL516_8 := Aside0.mk (show Kd.V (Kd.int .i64) 3 _ w.heap.size _ _ ((rd_T31 t510 0).f8) from Kd.V_mk ul516_8 ge516_8); clear hva_ hvn_ hvc_ ge516_8 ul516_8; clear hcc516 hce516; have qi516 : (0 < t510.length) = True := eq_true (by omega); (try rw [show ((0 : Int)).toNat = 0 from rfl] at hx516_0); (try rw [show 0 * 9 = 0 from rfl] at hx516_0); (try rw [Addr.add_zero'] at hx516_0); (try rw [show ((0 : Int)).toNat = 0 from rfl] at hx516_1); (try rw [show 0 * 9 = 0 from rfl] at hx516_1); (try rw [Addr.add_zero'] at hx516_1); (try rw [show ((0 : Int)).toNat = 0 from rfl] at hx516_2); (try rw [show 0 * 9 = 0 from rfl] at hx516_2); (try rw [Addr.add_zero'] at hx516_2); (try rw [show ((0 : Int)).toNat = 0 from rfl] at hx516_3); (try rw [show 0 * 9 = 0 from rfl] at hx516_3); (try rw [Addr.add_zero'] at hx516_3); (try rw [show ((0 : Int)).toNat = 0 from rfl] at hx516_4); (try rw [show 0 * 9 = 0 from rfl] at hx516_4); (try rw [Addr.add_zero'] at hx516_4); (try rw [show ((0 : Int)).toNat = 0 from rfl] at hx516_5); (try rw [show 0 * 9 = 0 from rfl] at hx516_5); (try rw [Addr.add_zero'] at hx516_5); (try rw [show ((0 : Int)).toNat = 0 from rfl] at hx516_6); (try rw [show 0 * 9 = 0 from rfl] at hx516_6); (try rw [Addr.add_zero'] at hx516_6); (try rw [show ((0 : Int)).toNat = 0 from rfl] at hx516_7); (try rw [show 0 * 9 = 0 from rfl] at hx516_7); (try rw [Addr.add_zero'] at hx516_7); (try rw [show ((0 : Int)).toNat = 0 from rfl] at hx516_8); (try rw [show 0 * 9 = 0 from rfl] at hx516_8); (try rw [Addr.add_zero'] at hx516_8); have HR516_7 := Aside0.mk hi516_7; have HC516_7 := Aside0.mk hl516_7; clear hi516_7 hl516_7; have HR516_8 := Aside0.mk hi516_8; have HC516_8 := Aside0.mk hl516_8; clear hi516_8 hl516_8; replace p516 := eq_true p516; replace q516 := eq_true q516; have ea_ := Option.some.inj (hx513_7.symm.trans hx516_7); injection ea_ with ea_ en_ ec_; subst ea_; subst ec_; clear en_; have ea_ := Option.some.inj (hx513_8.symm.trans hx516_8); injection ea_ with ea_ en_ ec_; subst ea_; subst ec_; clear en_; have p517 : 0 ≤ (0 : Int) := (by omega); have q517 : 0 < (((rd_T31 t510 0).f8).length : Int) := of_decide_eq_true (qrQx6_4); obtain ⟨ad517, e517, hx517_0⟩ := Kd.at_int (Kd.V_reads' HL516_8.out).2.2 0 p517 q517; cases e517; have qi517 : (0 < ((rd_T31 t510 0).f8).length) = True := eq_true (by omega); (try rw [show ((0 : Int)).toNat = 0 from rfl] at hx517_0); (try rw [Addr.add_zero'] at hx517_0); replace p517 := eq_true p517; replace q517 := eq_true q517; have p518 : 0 ≤ (0 : Int) := (by omega); have q518 : 0 < (t510.length : Int) := of_decide_eq_true (qrQx6_4); obtain ⟨ad518, A518_7, c518_7, A518_8, c518_8, e518, hx518_0, hx518_1, hx518_2, hx518_3, hx518_4, hx518_5, hx518_6, hx518_7, hx518_8, hl518_7, hi518_7, hl518_8, hi518_8⟩ := at_T31 (Kd.N_reads' HO512.out).2.2 0 p518 q518; obtain rfl : ad513 = ad518 := (by injection e518); obtain ⟨ce518, hce518, hMe518, hcc518⟩ := Kd.N_get HO512.out z31 0 p518 (by first | exact q518 | exact of_decide_eq_true (qrQx6_4) | (have e_ := (Kd.N_reads' HO512.out).1; omega)); obtain ⟨ua518_7, uc518_7, ua518_8, uc518_8, rfl, ul518_7, ge518_7, ul518_8, ge518_8⟩ := k31_openF hMe518; have hv518_7 := hcc518 7 _ rfl; rw [add_field _ _ 7 (by omega)] at hv518_7; replace hv518_7 := Option.some.inj (hv518_7.symm.trans hx518_7); injection hv518_7 with hva_ hvn_ hvc_; rw [hva_] at ge518_7; rw [hvc_] at ul518_7; have HL518_7 := Aside0.mk (show Kd.V (Kd.int .i64) 3 _ w.heap.size _ _ ((rd_T31 t510 0).f7) from Kd.V_mk ul518_7 ge518_7); clear hva_ hvn_ hvc_ ge518_7 ul518_7; have hv518_8 := hcc518 8 _ rfl; rw [add_field _ _ 8 (by omega)] at hv518_8; replace hv518_8 := Option.some.inj (hv518_8.symm.trans hx518_8); injection hv518_8 with hva_ hvn_ hvc_; rw [hva_] at ge518_8; rw [hvc_] at ul518_8; have HL518_8 := Aside0.mk (show Kd.V (Kd.int .i64) 3 _ w.heap.size _ _ ((rd_T31 t510 0).f8) from Kd.V_mk ul518_8 ge518_8); clear hva_ hvn_ hvc_ ge518_8 ul518_8; clear hcc518 hce518; have qi518 : (0 < t510.length) = True := eq_true (by omega); (try rw [show ((0 : Int)).toNat = 0 from rfl] at hx518_0); (try rw [show 0 * 9 = 0 from rfl] at hx518_0); (try rw [Addr.add_zero'] at hx518_0); (try rw [show ((0 : Int)).toNat = 0 from rfl] at hx518_1); (try rw [show 0 * 9 = 0 from rfl] at hx518_1); (try rw [Addr.add_zero'] at hx518_1); (try rw [show ((0 : Int)).toNat = 0 from rfl] at hx518_2); (try rw [show 0 * 9 = 0 from rfl] at hx518_2); (try rw [Addr.add_zero'] at hx518_2); (try rw [show ((0 : Int)).toNat = 0 from rfl] at hx518_3); (try rw [show 0 * 9 = 0 from rfl] at hx518_3); (try rw [Addr.add_zero'] at hx518_3); (try rw [show ((0 : Int)).toNat = 0 from rfl] at hx518_4); (try rw [show 0 * 9 = 0 from rfl] at hx518_4); (try rw [Addr.add_zero'] at hx518_4); (try rw [show ((0 : Int)).toNat = 0 from rfl] at hx518_5); (try rw [show 0 * 9 = 0 from rfl] at hx518_5); (try rw [Addr.add_zero'] at hx518_5); (try rw [show ((0 : Int)).toNat = 0 from rfl] at hx518_6); (try rw [show 0 * 9 = 0 from rfl] at hx518_6); (try rw [Addr.add_zero'] at hx518_6); (try rw [show ((0 : Int)).toNat = 0 from rfl] at hx518_7); (try rw [show 0 * 9 = 0 from rfl] at hx518_7); (try rw [Addr.add_zero'] at hx518_7); (try rw [show ((0 : Int)).toNat = 0 from rfl] at hx518_8); (try rw [show 0 * 9 = 0 from rfl] at hx518_8); (try rw [Addr.add_zero'] at hx518_8); have HR518_7 := Aside0.mk hi518_7; have HC518_7 := Aside0.mk hl518_7; clear hi518_7 hl518_7; have HR518_8 := Aside0.mk hi518_8; have HC518_8 := Aside0.mk hl518_8; clear hi518_8 hl518_8; replace p518 := eq_true p518; replace q518 := eq_true q518; have ea_ := Option.some.inj (hx513_7.symm.trans hx518_7); injection ea_ with ea_ en_ ec_; subst ea_; subst ec_; clear en_; have ea_ := Option.some.inj (hx513_8.symm.trans hx518_8); injection ea_ with ea_ en_ ec_; subst ea_; subst ec_; clear en_) | (go_at_call 14; (with_reducible refine (sessions_Format.calls ((rd_T31 t510 0).f0) ((rd_T31 t510 0).f1) ((rd_T31 t510 0).f2) ((rd_T31 t510 0).f3) ((rd_T31 t510 0).f4) ((rd_T31 t510 0).f5) ((rd_T31 t510 0).f6) _ _ ((rd_T31 t510 0).f7) _ _ ((rd_T31 t510 0).f8) t519 _ ?side1 ?side2 ?side3 ?side4 ?side5 A11.out).mono ?_); (case side1 => exact TabOk.below HT.out (qrQx6_1)); (case side2 => repeat (first | exact (Kd.V_reads' HL518_7.out).2.2 | (with_reducible refine Kd.C_alloc ?_ _) | (with_reducible refine Kd.C_drewN ?_ _) | (with_reducible refine Kd.C_drew ?_))); (case side3 => exact (Kd.V_reads' HL518_7.out).2.1); (case side4 => repeat (first | exact (Kd.V_reads' HL518_8.out).2.2 | (with_reducible refine Kd.C_alloc ?_ _) | (with_reducible refine Kd.C_drewN ?_ _) | (with_reducible refine Kd.C_drew ?_))); (case side5 => exact (Kd.V_reads' HL518_8.out).2.1); rintro e w21 ⟨rfl, hb⟩; have n0_ := Aside0.mk (Kd.N_below (qrQx6_5) hb); have n1_ := Aside0.mk (Kd.N_below (by (with_reducible repeat (first | apply Kd.N_alloc | apply Kd.N_drewN | apply Kd.N_drew)); exact HO512.out) hb); have n2_ := Aside0.mk (Kd.V_below (by (with_reducible repeat (first | apply Kd.V_alloc | apply Kd.V_drewN | apply Kd.V_drew)); exact HL513_7.out) hb); have n3_ := Aside0.mk (Kd.V_below (by (with_reducible repeat (first | apply Kd.V_alloc | apply Kd.V_drewN | apply Kd.V_drew)); exact HL513_8.out) hb); have n4_ := Aside0.mk (Kd.V_below (by (with_reducible repeat (first | apply Kd.V_alloc | apply Kd.V_drewN | apply Kd.V_drew)); exact HL514_7.out) hb); have n5_ := Aside0.mk (Kd.V_below (by (with_reducible repeat (first | apply Kd.V_alloc | apply Kd.V_drewN | apply Kd.V_drew)); exact HL514_8.out) hb); have n6_ := Aside0.mk (Kd.V_below (by (with_reducible repeat (first | apply Kd.V_alloc | apply Kd.V_drewN | apply Kd.V_drew)); exact HL515_7.out) hb); have n7_ := Aside0.mk (Kd.V_below (by (with_reducible repeat (first | apply Kd.V_alloc | apply Kd.V_drewN | apply Kd.V_drew)); exact HL515_8.out) hb); have n8_ := Aside0.mk (Kd.V_below (by (with_reducible repeat (first | apply Kd.V_alloc | apply Kd.V_drewN | apply Kd.V_drew)); exact HL516_7.out) hb); have n9_ := Aside0.mk (Kd.V_below (by (with_reducible repeat (first | apply Kd.V_alloc | apply Kd.V_drewN | apply Kd.V_drew)); exact HL516_8.out) hb); have n10_ := Aside0.mk (Kd.V_below (by (with_reducible repeat (first | apply Kd.V_alloc | apply Kd.V_drewN | apply Kd.V_drew)); exact HL518_7.out) hb); have n11_ := Aside0.mk (Kd.V_below (by (with_reducible repeat (first | apply Kd.V_alloc | apply Kd.V_drewN | apply Kd.V_drew)); exact HL518_8.out) hb); have n12_ := Aside0.mk (Kd.C_below (by repeat (first | (with_reducible exact HR513_7.out) | (with_reducible refine Kd.C_alloc ?_ _) | (with_reducible refine Kd.C_drewN ?_ _) | (with_reducible refine Kd.C_drew ?_) | exact HR513_7.out)) hb); have n13_ := Aside0.mk (Kd.C_below (by repeat (first | (with_reducible exact HR513_8.out) | (with_reducible refine Kd.C_alloc ?_ _) | (with_reducible refine Kd.C_drewN ?_ _) | (with_reducible refine Kd.C_drew ?_) | exact HR513_8.out)) hb); have n14_ := Aside0.mk (Kd.C_below (by repeat (first | (with_reducible exact HR514_7.out) | (with_reducible refine Kd.C_alloc ?_ _) | (with_reducible refine Kd.C_drewN ?_ _) | (with_reducible refine Kd.C_drew ?_) | exact HR514_7.out)) hb); have n15_ := Aside0.mk (Kd.C_below (by repeat (first | (with_reducible exact HR514_8.out) | (with_reducible refine Kd.C_alloc ?_ _) | (with_reducible refine Kd.C_drewN ?_ _) | (with_reducible refine Kd.C_drew ?_) | exact HR514_8.out)) hb); have n16_ := Aside0.mk (Kd.C_below (by repeat (first | (with_reducible exact HR515_7.out) | (with_reducible refine Kd.C_alloc ?_ _) | (with_reducible refine Kd.C_drewN ?_ _) | (with_reducible refine Kd.C_drew ?_) | exact HR515_7.out)) hb); have n17_ := Aside0.mk (Kd.C_below (by repeat (first | (with_reducible exact HR515_8.out) | (with_reducible refine Kd.C_alloc ?_ _) | (with_reducible refine Kd.C_drewN ?_ _) | (with_reducible refine Kd.C_drew ?_) | exact HR515_8.out)) hb); have n18_ := Aside0.mk (Kd.C_below (by repeat (first | (with_reducible exact HR516_7.out) | (with_reducible refine Kd.C_alloc ?_ _) | (with_reducible refine Kd.C_drewN ?_ _) | (with_reducible refine Kd.C_drew ?_) | exact HR516_7.out)) hb); have n19_ := Aside0.mk (Kd.C_below (by repeat (first | (with_reducible exact HR516_8.out) | (with_reducible refine Kd.C_alloc ?_ _) | (with_reducible refine Kd.C_drewN ?_ _) | (with_reducible refine Kd.C_drew ?_) | exact HR516_8.out)) hb); have n20_ := Aside0.mk (Kd.C_below (by repeat (first | (with_reducible exact HR518_7.out) | (with_reducible refine Kd.C_alloc ?_ _) | (with_reducible refine Kd.C_drewN ?_ _) | (with_reducible refine Kd.C_drew ?_) | exact HR518_7.out)) hb); have n21_ := Aside0.mk (Kd.C_below (by repeat (first | (with_reducible exact HR518_8.out) | (with_reducible refine Kd.C_alloc ?_ _) | (with_reducible refine Kd.C_drewN ?_ _) | (with_reducible refine Kd.C_drew ?_) | exact HR518_8.out)) hb); have n22_ := Aside0.mk (below_step (qrQx6_1) hb); clear HO509; clear HO512; clear HL513_7; clear HL513_8; clear HL514_7; clear HL514_8; clear HL515_7; clear HL515_8; clear HL516_7; clear HL516_8; clear HL518_7; clear HL518_8; clear HR513_7; clear HR513_8; clear HR514_7; clear HR514_8; clear HR515_7; clear HR515_8; clear HR516_7; clear HR516_8; clear HR518_7; clear HR518_8; clear HB; have HO509 := n0_; have HO512 := n1_; have HL513_7 := n2_; have HL513_8 := n3_; have HL514_7 := n4_; have HL514_8 := n5_; have HL515_7 := n6_; have HL515_8 := n7_; have HL516_7 := n8_; have HL516_8 := n9_; have HL518_7 := n10_; have HL518_8 := n11_; have HR513_7 := n12_; have HR513_8 := n13_; have HR514_7 := n14_; have HR514_8 := n15_; have HR515_7 := n16_; have HR515_8 := n17_; have HR516_7 := n18_; have HR516_8 := n19_; have HR518_7 := n20_; have HR518_8 := n21_; have HB := n22_; clear n0_ n1_ n2_ n3_ n4_ n5_ n6_ n7_ n8_ n9_ n10_ n11_ n12_ n13_ n14_ n15_ n16_ n17_ n18_ n19_ n20_ n21_ n22_; (try clear hb); (try clear hb2); (try clear hk); (try clear hi)))
                go_ret
                exact ⟨by first | rfl | (simp only [show ∀ l_ : List UInt8, (l_ != ([] : List UInt8)) = !l_.isEmpty from (fun l_ => by cases l_ <;> rfl), show ∀ l_ : List UInt8, (l_ == ([] : List UInt8)) = l_.isEmpty from (fun l_ => by cases l_ <;> rfl)]; rfl) | (simp [errW_none, errW_some] <;> rfl) | (simp [*, errW_none, errW_some] <;> rfl), by repeat (first | (with_reducible first | exact HB.out | apply below_alloc | apply pw_below_drewN | apply below_drew1) | exact HB.out)⟩
              · rw [if_neg c10] at H
                have c10b0 : ((rd ((rd_T31 t510 0).f8) 0) == 7) = false := beq_eq_false_iff_ne.mpr c10
                have c10b1 : ((rd ((rd_T31 t510 0).f8) 0) != 7) = true := bne_iff_ne.mpr c10
                exact absurd ((Option.some.inj H).trans hr_.out) (by decide)
            · rw [if_neg c9] at H
              exact absurd H (by simp)
          · rw [if_neg c8] at H
            have c8b0 : ((((rd_T31 t510 0).f8).length : Int) == 1) = false := beq_eq_false_iff_ne.mpr c8
            have c8b1 : ((((rd_T31 t510 0).f8).length : Int) != 1) = true := bne_iff_ne.mpr c8
            exact absurd ((Option.some.inj H).trans hr_.out) (by decide)
        · rw [if_neg c7] at H
          have c7b0 : (((rd_T31 t510 0).f6) == 1) = false := beq_eq_false_iff_ne.mpr c7
          have c7b1 : (((rd_T31 t510 0).f6) != 1) = true := bne_iff_ne.mpr c7
          exact absurd ((Option.some.inj H).trans hr_.out) (by decide)
      · rw [if_neg c6] at H
        have c6b0 : (((rd_T31 t510 0).f0) == 3) = false := beq_eq_false_iff_ne.mpr c6
        have c6b1 : (((rd_T31 t510 0).f0) != 3) = true := bne_iff_ne.mpr c6
        exact absurd ((Option.some.inj H).trans hr_.out) (by decide)
    · rw [if_neg c5] at H
      exact absurd H (by simp)
  · rw [if_neg c4] at H
    have c4b0 : ((t510.length : Int) == 1) = false := beq_eq_false_iff_ne.mpr c4
    have c4b1 : ((t510.length : Int) != 1) = true := bne_iff_ne.mpr c4
    exact absurd ((Option.some.inj H).trans hr_.out) (by decide)
def kauditlaw41_begun.f (k : Nat) : Option (Bool) := (kauditlaw41_begun.g k).bind fun b => if b = true then some true else none
theorem kauditlaw41_begun.calls (k : Nat)  (r : Bool) (w : World) (hT : TabOk w) (h : kauditlaw41_begun.f k  = some r) :
    Calls Tryd.prog 10 #[] w fun e w' => e = .returned (.bool r) ∧ Below w.heap.size w w' := by
  obtain ⟨b, h1, h2⟩ := Option.bind_eq_some_iff.1 (show (kauditlaw41_begun.g k ).bind (fun b => if b = true then some true else none) = some r from h)
  cases b with
  | false => cases h2
  | true =>
    obtain rfl := Option.some.inj h2
    exact kauditlaw41_begun.callsT k true w hT h1 ⟨rfl⟩

/-! ### slices_Clone: function 28 -/
def slices_Clone.f (l0 : List Int) : Option (List Int) := if l0.length < 17592186044416 then some l0 else none
theorem clone_ints (A0 : Option Addr) (c0 : Nat) (l0 : List Int) (w : World) (hr0 : Kd.C (Kd.int .i64) w A0 l0.length l0) (hl : l0.length < 17592186044416) :
    Calls Tryd.prog 28 #[.slice A0 l0.length c0] w fun e w' => ∃ v', e = .returned v' ∧ w'.ownsRow w.heap.size 3 1 v' l0.length (l0.map (Value.int .i64)) ∧ Below w.heap.size w w' := by
  have hrd := Kd.reads_of_C (d := (0 : Int)) hr0
  cases A0 with
  | none =>
    have h0 : l0.length = 0 := by
      rcases Nat.eq_zero_or_pos l0.length with h | h
      · exact h
      · obtain ⟨ad, e, _⟩ := hrd.2.2 h
        cases e
    obtain rfl : l0 = [] := List.eq_nil_of_length_eq_zero h0
    refine (Tryd.slices_Clone_int_nil 0 c0 w).mono ?_
    rintro e w' ⟨rfl, rfl⟩
    exact ⟨_, rfl, own_nil _ _ _ _, Below.refl _ _⟩
  | some a =>
    rcases Nat.eq_zero_or_pos l0.length with h0 | h0
    · obtain rfl : l0 = [] := List.eq_nil_of_length_eq_zero h0
      refine (Tryd.slices_Clone_int_zero a c0 w).mono ?_
      rintro e w' ⟨v', rfl, ho, _, hb⟩
      exact ⟨_, rfl, by simpa using ho, hb⟩
    · obtain ⟨ad, e, hc⟩ := hrd.2.2 h0
      injection e with e
      subst e
      obtain ⟨b, off, spot⟩ := a
      have hs : spot = none := by
        have h1 := hc 0 h0
        cases spot with
        | none => rfl
        | some s =>
          simp only [Addr.add, if_pos, World.cell?] at h1
          split at h1 <;> simp at h1
      subst hs
      have hcl := Tryd.slices_Clone_int b off l0.length c0 l0 w (Nat.le_refl _) (by omega) (fun j hj => by
        have h1 := hc j hj
        have h2 : (⟨b, off, none⟩ : Addr).add j = ⟨b, off + j, none⟩ := by unfold Addr.add; split <;> simp_all
        rwa [h2] at h1)
      rw [List.take_length] at hcl
      refine hcl.mono ?_
      rintro e w' ⟨v', rfl, ho, _, hb⟩
      exact ⟨_, rfl, ho, hb⟩
theorem slices_Clone.calls (A0 : Option Addr) (c0 : Nat) (l0 : List Int) (r : List Int) (w : World) (hr0 : Kd.C (Kd.int .i64) w A0 l0.length l0) (hc0 : l0.length ≤ c0) (h : slices_Clone.f l0 = some r) :
    Calls Tryd.prog 28 #[.slice A0 l0.length c0] w fun e w' => ∃ v0_ : Value, e = .returned (v0_) ∧ Kd.R (Kd.int .i64) 3 w' w.heap.size (fun _ => True) v0_ r ∧ Below w.heap.size w w' := by
  unfold slices_Clone.f at h
  by_cases hl : l0.length < 17592186044416
  case neg => rw [if_neg hl] at h; cases h
  rw [if_pos hl] at h
  injection h with h
  subst h
  refine (clone_ints A0 c0 l0 w hr0 hl).mono ?_
  rintro e w' ⟨v', rfl, ho, hb⟩
  exact ⟨v', rfl, Kd.R_of_own ho (fun _ _ => trivial), hb⟩

end Go.Proofs.YtjgehecnamadcaaDoor.Q
