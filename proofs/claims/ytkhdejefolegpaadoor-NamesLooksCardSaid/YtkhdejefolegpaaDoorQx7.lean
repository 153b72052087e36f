-- Printed by px.py: a changed copy of the kit's printer, with contracts of this session's own in it. Not trusted: Lean checks it.
import Derived.Test.YtkhdejefolegpaaDoorQx0
import Derived.Test.YtkhdejefolegpaaDoorQx1
import Derived.Test.YtkhdejefolegpaaDoorQx2
import Derived.Test.YtkhdejefolegpaaDoorQx6
namespace Go.Proofs.YtkhdejefolegpaaDoor.Q
open Go.RowKit Go.Proofs.YtkhdejefolegpaaDoorW.PrintWords Go.Proofs.YtkhdejefolegpaaDoorW.PrintLast Go.Proofs.YtkhdejefolegpaaDoorW.PrintMore
attribute [local go_sem] max2_int min2_int max_two min_two max_three min_three max_four min_four   -- for this text's walks alone
set_option linter.unusedVariables false
set_option linter.unusedSimpArgs false

/-! ### kauditlaw37_NamesAgree: function 4 -/
mutual
def kauditlaw37_NamesAgree.l0 : Nat → List (S43) → Int → Int → Int → Option (Bool)
  | 0, _, _, _, _ => none
  | k + 1, x8, x9, x10, x11 => if x11 < 12 then ((names_Name.f x8 x9 x10 x11).bind fun bt251 => ((some (([(⟨#[97, 110, 110]⟩ : ByteArray), (⟨#[98, 111, 98]⟩ : ByteArray), (⟨#[114, 111, 111, 116]⟩ : ByteArray), (⟨#[97, 45, 49]⟩ : ByteArray)] : List ByteArray) : List ByteArray)).bind fun y253 => (kauditlaw37_NamesAgree.l1 k x8 x9 x10 x11 bt251.1 bt251.2 y253 (y253.length : Int) 0))) else ((kauditlaw37_begun.f k).bind fun t250 => (some t250))
def kauditlaw37_NamesAgree.l1 : Nat → List (S43) → Int → Int → Int → ByteArray → Bool → List ByteArray → Int → Int → Option (Bool)
  | 0, _, _, _, _, _, _, _, _, _ => none
  | k + 1, x8, x9, x10, x11, x12, x13, x42, x43, x44 => if x44 < x43 then (if 0 ≤ x44 then (if x44 < (x42.length : Int) then ((names_IDs.f x8 x9 (rdOf ByteArray.empty x42 x44) x11).bind fun t257 => (kauditlaw37_NamesAgree.l2 k x8 x9 x10 x11 x12 x13 (rdOf ByteArray.empty x42 x44) false x42 x43 x44 t257 (t257.length : Int) 0)) else (none)) else (none)) else (kauditlaw37_NamesAgree.l0 k x8 x9 x10 (wrap64 (x11 + 1)))
def kauditlaw37_NamesAgree.l2 : Nat → List (S43) → Int → Int → Int → ByteArray → Bool → ByteArray → Bool → List ByteArray → Int → Int → List Int → Int → Int → Option (Bool)
  | 0, _, _, _, _, _, _, _, _, _, _, _, _, _, _ => none
  | k + 1, x8, x9, x10, x11, x12, x13, x15, x16, x42, x43, x44, x52, x53, x54 => if x54 < x53 then (if 0 ≤ x54 then (if x54 < (x52.length : Int) then (if x16 = true then (kauditlaw37_NamesAgree.l2 k x8 x9 x10 x11 x12 x13 x15 true x42 x43 x44 x52 x53 (wrap64 (x54 + 1))) else (kauditlaw37_NamesAgree.l2 k x8 x9 x10 x11 x12 x13 x15 ((rd x52 x54) == x10) x42 x43 x44 x52 x53 (wrap64 (x54 + 1)))) else (none)) else (none)) else (if x13 = true then (if (x16 != (x12.toList == x15.toList)) = true then (some false) else (kauditlaw37_NamesAgree.l1 k x8 x9 x10 x11 x12 x13 x42 x43 (wrap64 (x44 + 1)))) else (if (x16 != false) = true then (some false) else (kauditlaw37_NamesAgree.l1 k x8 x9 x10 x11 x12 x13 x42 x43 (wrap64 (x44 + 1)))))
end
def kauditlaw37_NamesAgree.f (k : Nat) (l0 : List Int) (a1 : Int) (a2 : Int) : Option (Bool) := (kauditmill_New.f l0 100).bind fun bt243 => ((kauditmill_Case_Namings.f k bt243.1 bt243.2).bind fun bt246 => (kauditlaw37_NamesAgree.l0 k bt246.1 (wrap64 (1 + (Int.tmod (wrap64 (a1)) 2))) (Int.tmod (wrap64 (a2)) 9) 0))
theorem kauditlaw37_NamesAgree.mono_l : ∀ k, (∀ y0 y1 y2 y3, LeO (kauditlaw37_NamesAgree.l0 k y0 y1 y2 y3) (kauditlaw37_NamesAgree.l0 (k + 1) y0 y1 y2 y3)) ∧ (∀ y0 y1 y2 y3 y4 y5 y6 y7 y8, LeO (kauditlaw37_NamesAgree.l1 k y0 y1 y2 y3 y4 y5 y6 y7 y8) (kauditlaw37_NamesAgree.l1 (k + 1) y0 y1 y2 y3 y4 y5 y6 y7 y8)) ∧ (∀ y0 y1 y2 y3 y4 y5 y6 y7 y8 y9 y10 y11 y12 y13, LeO (kauditlaw37_NamesAgree.l2 k y0 y1 y2 y3 y4 y5 y6 y7 y8 y9 y10 y11 y12 y13) (kauditlaw37_NamesAgree.l2 (k + 1) y0 y1 y2 y3 y4 y5 y6 y7 y8 y9 y10 y11 y12 y13))
  | 0 => ⟨fun _ _ _ _ r h => by simp [kauditlaw37_NamesAgree.l0] at h, fun _ _ _ _ _ _ _ _ _ r h => by simp [kauditlaw37_NamesAgree.l1] at h, fun _ _ _ _ _ _ _ _ _ _ _ _ _ _ r h => by simp [kauditlaw37_NamesAgree.l2] at h⟩
  | k + 1 => by
    obtain ⟨ih0, ih1, ih2⟩ := kauditlaw37_NamesAgree.mono_l k
    refine ⟨?_, ?_, ?_⟩
    · intro y0 y1 y2 y3
      unfold kauditlaw37_NamesAgree.l0
      repeat' first
      | (with_reducible exact ih0 _ _ _ _)
      | (with_reducible exact ih1 _ _ _ _ _ _ _ _ _)
      | (with_reducible exact ih2 _ _ _ _ _ _ _ _ _ _ _ _ _ _)
      | (with_reducible exact kauditlaw37_begun.mono _)
      | (with_reducible exact kauditmill_Case_Namings.mono _ _ _)
      | (with_reducible exact LeO.refl _)
      | (with_reducible exact LeO.none _)
      | (with_reducible refine LeO.ite ?_ ?_)
      | (with_reducible refine LeO.bind ?_ (fun _ => ?_))
      | exact ih0 _ _ _ _
      | exact ih1 _ _ _ _ _ _ _ _ _
      | exact ih2 _ _ _ _ _ _ _ _ _ _ _ _ _ _
      | exact kauditlaw37_begun.mono _
      | exact kauditmill_Case_Namings.mono _ _ _
      | exact LeO.none _
      | refine LeO.ite ?_ ?_
      | refine LeO.bind ?_ (fun _ => ?_)
    · intro y0 y1 y2 y3 y4 y5 y6 y7 y8
      unfold kauditlaw37_NamesAgree.l1
      repeat' first
      | (with_reducible exact ih0 _ _ _ _)
      | (with_reducible exact ih1 _ _ _ _ _ _ _ _ _)
      | (with_reducible exact ih2 _ _ _ _ _ _ _ _ _ _ _ _ _ _)
      | (with_reducible exact kauditlaw37_begun.mono _)
      | (with_reducible exact kauditmill_Case_Namings.mono _ _ _)
      | (with_reducible exact LeO.refl _)
      | (with_reducible exact LeO.none _)
      | (with_reducible refine LeO.ite ?_ ?_)
      | (with_reducible refine LeO.bind ?_ (fun _ => ?_))
      | exact ih0 _ _ _ _
      | exact ih1 _ _ _ _ _ _ _ _ _
      | exact ih2 _ _ _ _ _ _ _ _ _ _ _ _ _ _
      | exact kauditlaw37_begun.mono _
      | exact kauditmill_Case_Namings.mono _ _ _
      | exact LeO.none _
      | refine LeO.ite ?_ ?_
      | refine LeO.bind ?_ (fun _ => ?_)
    · intro y0 y1 y2 y3 y4 y5 y6 y7 y8 y9 y10 y11 y12 y13
      unfold kauditlaw37_NamesAgree.l2
      repeat' first
      | (with_reducible exact ih0 _ _ _ _)
      | (with_reducible exact ih1 _ _ _ _ _ _ _ _ _)
      | (with_reducible exact ih2 _ _ _ _ _ _ _ _ _ _ _ _ _ _)
      | (with_reducible exact kauditlaw37_begun.mono _)
      | (with_reducible exact kauditmill_Case_Namings.mono _ _ _)
      | (with_reducible exact LeO.refl _)
      | (with_reducible exact LeO.none _)
      | (with_reducible refine LeO.ite ?_ ?_)
      | (with_reducible refine LeO.bind ?_ (fun _ => ?_))
      | exact ih0 _ _ _ _
      | exact ih1 _ _ _ _ _ _ _ _ _
      | exact ih2 _ _ _ _ _ _ _ _ _ _ _ _ _ _
      | exact kauditlaw37_begun.mono _
      | exact kauditmill_Case_Namings.mono _ _ _
      | exact LeO.none _
      | refine LeO.ite ?_ ?_
      | refine LeO.bind ?_ (fun _ => ?_)
theorem kauditlaw37_NamesAgree.mono : ∀ a0 a1 a2 k, LeO (kauditlaw37_NamesAgree.f k a0 a1 a2) (kauditlaw37_NamesAgree.f (k + 1) a0 a1 a2) := by
  intro a0 a1 a2 k
  obtain ⟨ih0, ih1, ih2⟩ := kauditlaw37_NamesAgree.mono_l k
  unfold kauditlaw37_NamesAgree.f
  repeat' first
      | (with_reducible exact ih0 _ _ _ _)
      | (with_reducible exact ih1 _ _ _ _ _ _ _ _ _)
      | (with_reducible exact ih2 _ _ _ _ _ _ _ _ _ _ _ _ _ _)
      | (with_reducible exact kauditlaw37_begun.mono _)
      | (with_reducible exact kauditmill_Case_Namings.mono _ _ _)
      | (with_reducible exact LeO.refl _)
      | (with_reducible exact LeO.none _)
      | (with_reducible refine LeO.ite ?_ ?_)
      | (with_reducible refine LeO.bind ?_ (fun _ => ?_))
      | exact ih0 _ _ _ _
      | exact ih1 _ _ _ _ _ _ _ _ _
      | exact ih2 _ _ _ _ _ _ _ _ _ _ _ _ _ _
      | exact kauditlaw37_begun.mono _
      | exact kauditmill_Case_Namings.mono _ _ _
      | exact LeO.none _
      | refine LeO.ite ?_ ?_
      | refine LeO.bind ?_ (fun _ => ?_)
set_option maxHeartbeats 8000000 in
set_option maxRecDepth 100000 in
theorem kauditlaw37_NamesAgree.calls (k : Nat) (A0 : Option Addr) (c0 : Nat) (l0 : List Int) (a1 : Int) (a2 : Int) (r : Bool) (w : World) (hr0 : Kd.C (Kd.int .u8) w A0 l0.length l0) (hc0 : l0.length ≤ c0) (h : kauditlaw37_NamesAgree.f k l0 a1 a2 = some r) :
    Calls Tryd.prog 4 #[.slice A0 l0.length c0, .int .u8 a1, .int .u8 a2] w fun e w' => e = .returned (.bool r) ∧ Below w.heap.size w w' := by
  have HR0 := Aside0.mk hr0
  have HC0 := Aside0.mk hc0
  clear hr0 hc0
  have HB := Aside0.mk (Below.refl w.heap.size w)
  have H : ((kauditmill_New.f l0 100).bind fun bt243 => ((kauditmill_Case_Namings.f k bt243.1 bt243.2).bind fun bt246 => (kauditlaw37_NamesAgree.l0 k bt246.1 (wrap64 (1 + (Int.tmod (wrap64 (a1)) 2))) (Int.tmod (wrap64 (a2)) 9) 0))) = some r := h
  clear h
  replace H := Option.bind_eq_some_iff.mp H
  obtain ⟨⟨t243, t244⟩, A40, H⟩ := H
  replace H : ((kauditmill_Case_Namings.f k t243 t244).bind fun bt246 => (kauditlaw37_NamesAgree.l0 k bt246.1 (wrap64 (1 + (Int.tmod (wrap64 (a1)) 2))) (Int.tmod (wrap64 (a2)) 9) 0)) = some r := H
  have A4 := Aside0.mk A40
  clear A40
  replace H := Option.bind_eq_some_iff.mp H
  obtain ⟨⟨t246, t249⟩, A50, H⟩ := H
  replace H : (kauditlaw37_NamesAgree.l0 k t246 (wrap64 (1 + (Int.tmod (wrap64 (a1)) 2))) (Int.tmod (wrap64 (a2)) 9) 0) = some r := H
  have A5 := Aside0.mk A50
  clear A50
  have H' := Aside0.mk H
  clear H
  go_enter Tryd.func4, Tryd.ntmps4
  go_wp2_with (first | ((with_reducible refine gate_callee (f := 5) rfl ?_); refine goesL_ (some 20) rfl rfl Tryd.func5 (by kernel_rfl) rfl #[.slice A0 l0.length c0, .int .i64 100] rfl (by (try simp only [List.map_toArray, List.map_cons, List.map_nil]); first | done | rfl | (simp only [List.length_drop, List.length_take]; rfl)) ?_; (with_reducible refine (kauditmill_New.calls _ _ l0 100 t243 t244 w _ ?side1 ?side2 ?side3 A4.out).mono ?_); (case side1 => repeat (first | (with_reducible first | exact HB.out | apply below_alloc | apply pw_below_drewN | apply below_drew1) | exact HB.out)); (case side2 => exact HR0.out); (case side3 => exact HC0.out); rintro e w6 ⟨g245, rfl, hi, hb, hb2⟩; refine ⟨_, rfl, ?_⟩; have n0_ := Aside0.mk (hb); have n1_ := Aside0.mk (hi); clear HB; have HB := n0_; have HI245 := n1_; clear n0_ n1_; (try clear hb); (try clear hb2); (try clear hk); (try clear hi)) | ((with_reducible refine gate_callee (f := 6) rfl ?_); refine goesL_ (some 22) rfl rfl Tryd.func6 (by kernel_rfl) rfl #[.pointer (some ⟨g245, 0, none⟩)] rfl (by (try simp only [List.map_toArray, List.map_cons, List.map_nil]); first | done | rfl | (simp only [List.length_drop, List.length_take]; rfl)) ?_; (with_reducible refine (kauditmill_Case_Namings.calls k g245 t243 t244 t246 t249 w _ ?side1 ?side2 A5.out).mono ?_); (case side1 => repeat (first | (with_reducible first | exact HI245.out | apply IsS40.alloc | apply IsS40.drewN | apply IsS40.drew | apply IsS40.set_1) | exact HI245.out)); (case side2 => repeat (first | (with_reducible first | exact HB.out | apply below_alloc | apply pw_below_drewN | apply below_drew1 | refine below_set ?_ (IsS40.ge HI245.out)) | exact HB.out)); rintro e w7 ⟨v247, rfl, ho0, hi, hb, hk⟩; refine ⟨_, rfl, ?_⟩; have n0_ := Aside0.mk (Kd.R_lower ho0 (below_size (by repeat (first | (with_reducible first | exact HB.out | apply below_alloc | apply pw_below_drewN | apply below_drew1 | refine below_set ?_ (IsS40.ge HI245.out)) | exact HB.out)))); have n1_ := Aside0.mk (hb); have n2_ := Aside0.mk (hi); clear HB; clear HI245; have HO248 := n0_; have HB := n1_; have HI245 := n2_; clear n0_ n1_ n2_; (try clear hb); (try clear hb2); (try clear hk); (try clear hi); (try clear ho0)))
  go_loopg [11] k (fun kq v11 w' => ∃ (x11_1 : Int), v11 = .int .i64 x11_1 ∧ Aside0 (kauditlaw37_NamesAgree.l0 kq t246 (wrap64 (1 + (Int.tmod (wrap64 (a1)) 2))) (Int.tmod (wrap64 (a2)) 9) x11_1 = some r) ∧ Aside0 (kq ≤ k) ∧ Aside0 (Kd.R k43 43 w' w.heap.size (fun _ => True) v247 t246) ∧ Aside0 (Below w.heap.size w w'))
  case atStart => exact ⟨(0), (by first | rfl | (simp; done) | (simp [*]; done)), H', ⟨Nat.le_refl _⟩, ⟨by (with_reducible repeat (first | apply Kd.R_alloc | apply Kd.R_drewN | apply Kd.R_drew)); exact HO248.out⟩, ⟨by repeat (first | (with_reducible first | exact HB.out | apply below_alloc | apply pw_below_drewN | apply below_drew1 | refine below_set ?_ (IsS40.ge HI245.out)) | exact HB.out)⟩⟩
  case round =>
    clear H'
    try clear p2
    try clear c4
    try clear c5
    try clear c6
    try clear p6
    obtain ⟨x11_1, rfl, HA, HK1, HO_8, HB⟩ := hrel
    cases gk with
    | zero => exact absurd HA.out (by simp [kauditlaw37_NamesAgree.l0])
    | succ k1 =>
      have H := HA.out
      clear HA
      simp only [kauditlaw37_NamesAgree.l0] at H
      by_cases c8 : x11_1 < 12
      · rw [if_pos c8] at H
        have c8b0 : decide (x11_1 < 12) = true := decide_eq_true c8
        clear c8
        replace H := Option.bind_eq_some_iff.mp H
        obtain ⟨⟨t251, t252⟩, A90, H⟩ := H
        replace H : ((some (([(⟨#[97, 110, 110]⟩ : ByteArray), (⟨#[98, 111, 98]⟩ : ByteArray), (⟨#[114, 111, 111, 116]⟩ : ByteArray), (⟨#[97, 45, 49]⟩ : ByteArray)] : List ByteArray) : List ByteArray)).bind fun y253 => (kauditlaw37_NamesAgree.l1 k1 t246 (wrap64 (1 + (Int.tmod (wrap64 (a1)) 2))) (Int.tmod (wrap64 (a2)) 9) x11_1 t251 t252 y253 (y253.length : Int) 0)) = some r := H
        have A9 := Aside0.mk A90
        clear A90
        obtain ⟨y253, hy253⟩ : ∃ y_ : List ByteArray, y_ = (([(⟨#[97, 110, 110]⟩ : ByteArray), (⟨#[98, 111, 98]⟩ : ByteArray), (⟨#[114, 111, 111, 116]⟩ : ByteArray), (⟨#[97, 45, 49]⟩ : ByteArray)] : List ByteArray)) := ⟨_, rfl⟩
        replace H : (kauditlaw37_NamesAgree.l1 k1 t246 (wrap64 (1 + (Int.tmod (wrap64 (a1)) 2))) (Int.tmod (wrap64 (a2)) 9) x11_1 t251 t252 y253 (y253.length : Int) 0) = some r := by first | (rw [hy253]; with_reducible exact H) | (have H2_ := (Option.bind_some _ _).symm.trans H; rw [hy253]; with_reducible exact H2_) | (have H2_ := (Option.bind_some _ _).symm.trans H; with_reducible exact H2_) | with_reducible exact H | (rw [hy253]; exact H) | exact H
        have Ny253 := Aside0.mk hy253
        clear hy253
        have H' := Aside0.mk H
        clear H
        obtain ⟨Ao10, co10, eo10⟩ := Kd.R_slice HO_8.out
        subst eo10
        go_wp2_with (first | ((with_reducible refine gate_callee (f := 8) rfl ?_); refine goesL_ (some 39) rfl rfl Tryd.func8 (by kernel_rfl) rfl #[.slice Ao10 t246.length co10, .int .i64 (wrap64 (1 + (Int.tmod (wrap64 (a1)) 2))), .int .i64 (Int.tmod (wrap64 (a2)) 9), .int .i64 x11_1] rfl (by (try simp only [List.map_toArray, List.map_cons, List.map_nil]); first | done | rfl | (simp only [List.length_drop, List.length_take]; rfl)) ?_; (with_reducible refine (names_Name.calls _ _ t246 (wrap64 (1 + (Int.tmod (wrap64 (a1)) 2))) (Int.tmod (wrap64 (a2)) 9) x11_1 t251 t252 _ ?side1 ?side2 A9.out).mono ?_); (case side1 => repeat (first | exact (Kd.R_reads' HO_8.out).2.2 | (with_reducible refine Kd.C_alloc ?_ _) | (with_reducible refine Kd.C_drewN ?_ _) | (with_reducible refine Kd.C_drew ?_))); (case side2 => exact (Kd.R_reads' HO_8.out).2.1); rintro e w11 ⟨rfl, hb⟩; refine ⟨_, rfl, ?_⟩; have n0_ := Aside0.mk (Kd.R_below (by (with_reducible repeat (first | apply Kd.R_alloc | apply Kd.R_drewN | apply Kd.R_drew)); exact HO_8.out) hb); have n1_ := Aside0.mk (below_step (by repeat (first | (with_reducible first | exact HB.out | apply below_alloc | apply pw_below_drewN | apply below_drew1) | exact HB.out)) hb); clear HO_8; clear HB; have HO_8 := n0_; have HB := n1_; clear n0_ n1_; (try clear hb); (try clear hb2); (try clear hk); (try clear hi)) | ((with_reducible refine gate_dst (N := 42) rfl ?_); refine Kd.R_lit Kd.string _ 9 ?hg (N := 42) ?hd (xs := ([(⟨#[97, 110, 110]⟩ : ByteArray), (⟨#[98, 111, 98]⟩ : ByteArray), (⟨#[114, 111, 111, 116]⟩ : ByteArray), (⟨#[97, 45, 49]⟩ : ByteArray)] : List ByteArray)) (inner := [.string (⟨#[97, 110, 110]⟩ : ByteArray), .string (⟨#[98, 111, 98]⟩ : ByteArray), .string (⟨#[114, 111, 111, 116]⟩ : ByteArray), .string (⟨#[97, 45, 49]⟩ : ByteArray)]) (ok := fun _ => True) (okp := fun _ => True) ?hr ?hp (fun _ hk => hk) trivial (Below.refl _ _) (Nat.le_refl _) (by simp) ?_; (case hd => rfl); (case hg => rfl); (case hr => first | (go_simp; done) | (go_simp; rfl)); (case hp => exact (Reps.one (show Kd.M Kd.string _ _ _ (⟨#[97, 110, 110]⟩ : ByteArray) [.string (⟨#[97, 110, 110]⟩ : ByteArray)] from rfl) (Reps.one (show Kd.M Kd.string _ _ _ (⟨#[98, 111, 98]⟩ : ByteArray) [.string (⟨#[98, 111, 98]⟩ : ByteArray)] from rfl) (Reps.one (show Kd.M Kd.string _ _ _ (⟨#[114, 111, 111, 116]⟩ : ByteArray) [.string (⟨#[114, 111, 111, 116]⟩ : ByteArray)] from rfl) (Reps.one (show Kd.M Kd.string _ _ _ (⟨#[97, 45, 49]⟩ : ByteArray) [.string (⟨#[97, 45, 49]⟩ : ByteArray)] from rfl) (Reps.none _ _)))))); intro v254 w12 ho13 hb hg_ hnew_; clear hg_ hnew_; (first | rw [← Ny253.out] at ho13 | (simp only [Int.reduceToNat] at ho13; rw [← Ny253.out] at ho13)); have n0_ := Aside0.mk (Kd.R_below (by (with_reducible repeat (first | apply Kd.R_alloc | apply Kd.R_drewN | apply Kd.R_drew)); exact HO_8.out) hb); have n1_ := Aside0.mk (Kd.R_lower ho13 (below_size (by repeat (first | (with_reducible first | exact HB.out | apply below_alloc | apply pw_below_drewN | apply below_drew1) | exact HB.out)))); have n2_ := Aside0.mk (below_step (by repeat (first | (with_reducible first | exact HB.out | apply below_alloc | apply pw_below_drewN | apply below_drew1) | exact HB.out)) hb); clear HO_8; clear HB; have HO_8 := n0_; have HO255 := n1_; have HB := n2_; clear n0_ n1_ n2_; clear hb ho13; obtain ⟨Ao14, co14, eo14⟩ := Kd.R_slice HO255.out; subst eo14))
        go_loopg [44] k1 (fun kq v44 w' => ∃ (x44_2 : Int), v44 = .int .i64 x44_2 ∧ Aside0 (kauditlaw37_NamesAgree.l1 kq t246 (wrap64 (1 + (Int.tmod (wrap64 (a1)) 2))) (Int.tmod (wrap64 (a2)) 9) x11_1 t251 t252 y253 (y253.length : Int) x44_2 = some r) ∧ Aside0 (kq ≤ k1) ∧ Aside0 (Kd.R k43 43 w' w.heap.size (fun _ => True) (.slice Ao10 t246.length co10) t246) ∧ Aside0 (Kd.R Kd.string 9 w' w.heap.size (fun _ => True) (.slice Ao14 y253.length co14) y253) ∧ Aside0 (Below w.heap.size w w'))
        case atStart => exact ⟨(0), (by first | rfl | (simp; done) | (simp [*]; done)), H', ⟨Nat.le_refl _⟩, ⟨by (with_reducible repeat (first | apply Kd.R_alloc | apply Kd.R_drewN | apply Kd.R_drew)); exact HO_8.out⟩, ⟨by (with_reducible repeat (first | apply Kd.R_alloc | apply Kd.R_drewN | apply Kd.R_drew)); exact HO255.out⟩, ⟨by repeat (first | (with_reducible first | exact HB.out | apply below_alloc | apply pw_below_drewN | apply below_drew1) | exact HB.out)⟩⟩
        case round =>
          clear H'
          try clear p2
          try clear c4
          try clear c5
          try clear c6
          try clear p6
          try clear c8
          try clear c8b0
          try clear p2
          try clear p6
          obtain ⟨x44_2, rfl, HA, HK2, HO_8, HO_42, HB⟩ := hrel
          cases gk with
          | zero => exact absurd HA.out (by simp [kauditlaw37_NamesAgree.l1])
          | succ k2 =>
            have H := HA.out
            clear HA
            simp only [kauditlaw37_NamesAgree.l1] at H
            by_cases c15 : x44_2 < (y253.length : Int)
            · rw [if_pos c15] at H
              have c15b0 : decide (x44_2 < (y253.length : Int)) = true := decide_eq_true c15
              clear c15
              by_cases c16 : 0 ≤ x44_2
              · rw [if_pos c16] at H
                have c16b0 : decide (0 ≤ x44_2) = true := decide_eq_true c16
                clear c16
                by_cases c17 : x44_2 < (y253.length : Int)
                · rw [if_pos c17] at H
                  have c17b0 : decide (x44_2 < (y253.length : Int)) = true := decide_eq_true c17
                  clear c17
                  replace H := Option.bind_eq_some_iff.mp H
                  obtain ⟨t257, A180, H⟩ := H
                  replace H : (kauditlaw37_NamesAgree.l2 k2 t246 (wrap64 (1 + (Int.tmod (wrap64 (a1)) 2))) (Int.tmod (wrap64 (a2)) 9) x11_1 t251 t252 (rdOf ByteArray.empty y253 x44_2) false y253 (y253.length : Int) x44_2 t257 (t257.length : Int) 0) = some r := H
                  have A18 := Aside0.mk A180
                  clear A180
                  have H' := Aside0.mk H
                  clear H
                  have p256 : 0 ≤ (x44_2 : Int) := of_decide_eq_true (by first | (with_reducible assumption) | assumption)
                  have q256 : x44_2 < (y253.length : Int) := of_decide_eq_true (by first | (with_reducible assumption) | assumption)
                  obtain ⟨ad256, e256, hx256_0⟩ := Kd.at_string (Kd.R_reads' HO_42.out).2.2 x44_2 p256 q256
                  cases e256
                  replace p256 := eq_true p256
                  replace q256 := eq_true q256
                  go_wp2_with (first | ((with_reducible refine gate_callee (f := 11) rfl ?_); refine goesL_ (some 52) rfl rfl Tryd.func11 (by kernel_rfl) rfl #[.slice Ao10 t246.length co10, .int .i64 (wrap64 (1 + (Int.tmod (wrap64 (a1)) 2))), .string (rdOf ByteArray.empty y253 x44_2), .int .i64 x11_1] rfl (by (try simp only [List.map_toArray, List.map_cons, List.map_nil]); first | done | rfl | (simp only [List.length_drop, List.length_take]; rfl)) ?_; (with_reducible refine (names_IDs.calls _ _ t246 (wrap64 (1 + (Int.tmod (wrap64 (a1)) 2))) (rdOf ByteArray.empty y253 x44_2) x11_1 t257 _ ?side1 ?side2 A18.out).mono ?_); (case side1 => repeat (first | exact (Kd.R_reads' HO_8.out).2.2 | (with_reducible refine Kd.C_alloc ?_ _) | (with_reducible refine Kd.C_drewN ?_ _) | (with_reducible refine Kd.C_drew ?_))); (case side2 => exact (Kd.R_reads' HO_8.out).2.1); rintro e w19 ⟨v258, rfl, ho0, hb⟩; refine ⟨_, rfl, ?_⟩; have n0_ := Aside0.mk (Kd.R_below (by (with_reducible repeat (first | apply Kd.R_alloc | apply Kd.R_drewN | apply Kd.R_drew)); exact HO_8.out) hb); have n1_ := Aside0.mk (Kd.R_below (by (with_reducible repeat (first | apply Kd.R_alloc | apply Kd.R_drewN | apply Kd.R_drew)); exact HO_42.out) hb); have n2_ := Aside0.mk (Kd.R_lower ho0 (below_size (by repeat (first | (with_reducible first | exact HB.out | apply below_alloc | apply pw_below_drewN | apply below_drew1) | exact HB.out)))); have n3_ := Aside0.mk (below_step (by repeat (first | (with_reducible first | exact HB.out | apply below_alloc | apply pw_below_drewN | apply below_drew1) | exact HB.out)) hb); clear HO_8; clear HO_42; clear HB; have HO_8 := n0_; have HO_42 := n1_; have HO259 := n2_; have HB := n3_; clear n0_ n1_ n2_ n3_; (try clear hb); (try clear hb2); (try clear hk); (try clear hi); (try clear ho0); obtain ⟨Ao20, co20, eo20⟩ := Kd.R_slice HO259.out; subst eo20))
                  go_loopg [16, 54] k2 (fun kq v16 v54 w' => ∃ (x16_3 : Bool) (x54_3 : Int), v16 = .bool x16_3 ∧ v54 = .int .i64 x54_3 ∧ Aside0 (kauditlaw37_NamesAgree.l2 kq t246 (wrap64 (1 + (Int.tmod (wrap64 (a1)) 2))) (Int.tmod (wrap64 (a2)) 9) x11_1 t251 t252 (rdOf ByteArray.empty y253 x44_2) x16_3 y253 (y253.length : Int) x44_2 t257 (t257.length : Int) x54_3 = some r) ∧ Aside0 (kq ≤ k2) ∧ Aside0 (Kd.R k43 43 w' w.heap.size (fun _ => True) (.slice Ao10 t246.length co10) t246) ∧ Aside0 (Kd.R Kd.string 9 w' w.heap.size (fun _ => True) (.slice (some ad256) y253.length co14) y253) ∧ Aside0 (Kd.R (Kd.int .i64) 3 w' w.heap.size (fun _ => True) (.slice Ao20 t257.length co20) t257) ∧ Aside0 (Below w.heap.size w w'))
                  case atStart => exact ⟨(false), (0), (by first | rfl | (simp; done) | (simp [*]; done)), (by first | rfl | (simp; done) | (simp [*]; done)), H', ⟨Nat.le_refl _⟩, ⟨by (with_reducible repeat (first | apply Kd.R_alloc | apply Kd.R_drewN | apply Kd.R_drew)); exact HO_8.out⟩, ⟨by (with_reducible repeat (first | apply Kd.R_alloc | apply Kd.R_drewN | apply Kd.R_drew)); exact HO_42.out⟩, ⟨by (with_reducible repeat (first | apply Kd.R_alloc | apply Kd.R_drewN | apply Kd.R_drew)); exact HO259.out⟩, ⟨by repeat (first | (with_reducible first | exact HB.out | apply below_alloc | apply pw_below_drewN | apply below_drew1) | exact HB.out)⟩⟩
                  case round =>
                    clear H'
                    try clear c1
                    try clear p2
                    try clear q2
                    try clear hx2
                    try clear c4
                    try clear c5
                    try clear c6
                    try clear p6
                    try clear c8
                    try clear c8b0
                    try clear c11
                    try clear c15
                    try clear c15b0
                    try clear c16
                    try clear c16b0
                    try clear c17
                    try clear c17b0
                    try clear hx256_0
                    try clear p2
                    try clear p256
                    try clear p6
                    try clear q256
                    obtain ⟨x16_3, x54_3, rfl, rfl, HA, HK3, HO_8, HO_42, HO_52, HB⟩ := hrel
                    cases gk with
                    | zero => exact absurd HA.out (by simp [kauditlaw37_NamesAgree.l2])
                    | succ k3 =>
                      have H := HA.out
                      clear HA
                      simp only [kauditlaw37_NamesAgree.l2] at H
                      by_cases c21 : x54_3 < (t257.length : Int)
                      · rw [if_pos c21] at H
                        have c21b0 : decide (x54_3 < (t257.length : Int)) = true := decide_eq_true c21
                        clear c21
                        by_cases c22 : 0 ≤ x54_3
                        · rw [if_pos c22] at H
                          have c22b0 : decide (0 ≤ x54_3) = true := decide_eq_true c22
                          clear c22
                          by_cases c23 : x54_3 < (t257.length : Int)
                          · rw [if_pos c23] at H
                            have c23b0 : decide (x54_3 < (t257.length : Int)) = true := decide_eq_true c23
                            clear c23
                            by_cases c24 : x16_3 = true
                            · subst c24
                              have H1 : (kauditlaw37_NamesAgree.l2 k3 t246 (wrap64 (1 + (Int.tmod (wrap64 (a1)) 2))) (Int.tmod (wrap64 (a2)) 9) x11_1 t251 t252 (rdOf ByteArray.empty y253 x44_2) true y253 (y253.length : Int) x44_2 t257 (t257.length : Int) (wrap64 (x54_3 + 1))) = some r := by rw [if_pos rfl] at H; exact H
                              clear H
                              have H := H1
                              clear H1
                              have H' := Aside0.mk H
                              clear H
                              have p260 : 0 ≤ (x54_3 : Int) := of_decide_eq_true (by first | (with_reducible assumption) | assumption)
                              have q260 : x54_3 < (t257.length : Int) := of_decide_eq_true (by first | (with_reducible assumption) | assumption)
                              obtain ⟨ad260, e260, hx260_0⟩ := Kd.at_int (Kd.R_reads' HO_52.out).2.2 x54_3 p260 q260
                              cases e260
                              replace p260 := eq_true p260
                              replace q260 := eq_true q260
                              go_wp2
                              go_roundg k3
                              case measure => have := HK1.out; have := HK2.out; have := HK3.out; omega
                              case rel => exact ⟨(true), (wrap64 (x54_3 + 1)), (by first | rfl | (simp; done) | (simp [*]; done)), (by first | rfl | (simp; done) | (simp [*]; done)), H', ⟨by have := HK1.out; have := HK2.out; have := HK3.out; omega⟩, ⟨by (with_reducible repeat (first | apply Kd.R_alloc | apply Kd.R_drewN | apply Kd.R_drew)); exact HO_8.out⟩, ⟨by (with_reducible repeat (first | apply Kd.R_alloc | apply Kd.R_drewN | apply Kd.R_drew)); exact HO_42.out⟩, ⟨by (with_reducible repeat (first | apply Kd.R_alloc | apply Kd.R_drewN | apply Kd.R_drew)); exact HO_52.out⟩, ⟨by repeat (first | (with_reducible first | exact HB.out | apply below_alloc | apply pw_below_drewN | apply below_drew1) | exact HB.out)⟩⟩
                            · replace c24 := Bool.eq_false_iff.mpr c24
                              subst c24
                              have H1 : (kauditlaw37_NamesAgree.l2 k3 t246 (wrap64 (1 + (Int.tmod (wrap64 (a1)) 2))) (Int.tmod (wrap64 (a2)) 9) x11_1 t251 t252 (rdOf ByteArray.empty y253 x44_2) ((rd t257 x54_3) == (Int.tmod (wrap64 (a2)) 9)) y253 (y253.length : Int) x44_2 t257 (t257.length : Int) (wrap64 (x54_3 + 1))) = some r := by rw [if_neg (show ¬ (false = true) by decide)] at H; exact H
                              clear H
                              have H := H1
                              clear H1
                              have H' := Aside0.mk H
                              clear H
                              have p260 : 0 ≤ (x54_3 : Int) := of_decide_eq_true (by first | (with_reducible assumption) | assumption)
                              have q260 : x54_3 < (t257.length : Int) := of_decide_eq_true (by first | (with_reducible assumption) | assumption)
                              obtain ⟨ad260, e260, hx260_0⟩ := Kd.at_int (Kd.R_reads' HO_52.out).2.2 x54_3 p260 q260
                              cases e260
                              replace p260 := eq_true p260
                              replace q260 := eq_true q260
                              go_wp2
                              go_roundg k3
                              case measure => have := HK1.out; have := HK2.out; have := HK3.out; omega
                              case rel => exact ⟨(((rd t257 x54_3) == (Int.tmod (wrap64 (a2)) 9))), (wrap64 (x54_3 + 1)), (by first | rfl | (simp; done) | (simp [*]; done)), (by first | rfl | (simp; done) | (simp [*]; done)), H', ⟨by have := HK1.out; have := HK2.out; have := HK3.out; omega⟩, ⟨by (with_reducible repeat (first | apply Kd.R_alloc | apply Kd.R_drewN | apply Kd.R_drew)); exact HO_8.out⟩, ⟨by (with_reducible repeat (first | apply Kd.R_alloc | apply Kd.R_drewN | apply Kd.R_drew)); exact HO_42.out⟩, ⟨by (with_reducible repeat (first | apply Kd.R_alloc | apply Kd.R_drewN | apply Kd.R_drew)); exact HO_52.out⟩, ⟨by repeat (first | (with_reducible first | exact HB.out | apply below_alloc | apply pw_below_drewN | apply below_drew1) | exact HB.out)⟩⟩
                          · rw [if_neg c23] at H
                            exact absurd H (by simp)
                        · rw [if_neg c22] at H
                          exact absurd H (by simp)
                      · rw [if_neg c21] at H
                        have c21b0 : decide (x54_3 < (t257.length : Int)) = false := decide_eq_false c21
                        clear c21
                        by_cases c25 : t252 = true
                        · subst c25
                          have H1 : (if (x16_3 != (t251.toList == (rdOf ByteArray.empty y253 x44_2).toList)) = true then (some false) else (kauditlaw37_NamesAgree.l1 k3 t246 (wrap64 (1 + (Int.tmod (wrap64 (a1)) 2))) (Int.tmod (wrap64 (a2)) 9) x11_1 t251 true y253 (y253.length : Int) (wrap64 (x44_2 + 1)))) = some r := by rw [if_pos rfl] at H; exact H
                          clear H
                          have H := H1
                          clear H1
                          by_cases c26 : (x16_3 != (t251.toList == (rdOf ByteArray.empty y253 x44_2).toList)) = true
                          · rw [if_pos c26] at H
                            have c26b0 : (x16_3 != (t251.toList == (rdOf ByteArray.empty y253 x44_2).toList)) = true := c26
                            (try (have c26b1 : decide (x16_3 = (t251.toList == (rdOf ByteArray.empty y253 x44_2).toList)) = false := by simpa using c26))
                            (try (have c26b2 : (x16_3 == (t251.toList == (rdOf ByteArray.empty y253 x44_2).toList)) = false := by simpa using c26))
                            (try (have c26b3 : ¬ (x16_3 = (t251.toList == (rdOf ByteArray.empty y253 x44_2).toList)) := by simpa using c26))
                            clear c26
                            obtain rfl := Option.some.inj H
                            go_wp2
                            go_ret
                            exact ⟨by first | rfl | (simp only [show ∀ l_ : List UInt8, (l_ != ([] : List UInt8)) = !l_.isEmpty from (fun l_ => by cases l_ <;> rfl), show ∀ l_ : List UInt8, (l_ == ([] : List UInt8)) = l_.isEmpty from (fun l_ => by cases l_ <;> rfl)]; rfl) | (simp [errW_none, errW_some] <;> rfl) | (simp [*, errW_none, errW_some] <;> rfl), by repeat (first | (with_reducible first | exact HB.out | apply below_alloc | apply pw_below_drewN | apply below_drew1) | exact HB.out)⟩
                          · rw [if_neg c26] at H
                            have c26b0 : (x16_3 != (t251.toList == (rdOf ByteArray.empty y253 x44_2).toList)) = false := by simpa using c26
                            (try (have c26b1 : decide (x16_3 = (t251.toList == (rdOf ByteArray.empty y253 x44_2).toList)) = true := by simpa using c26))
                            (try (have c26b2 : (x16_3 == (t251.toList == (rdOf ByteArray.empty y253 x44_2).toList)) = true := by simpa using c26))
                            clear c26
                            have H' := Aside0.mk H
                            clear H
                            go_wp2
                            go_roundg k3
                            case measure => have := HK1.out; have := HK2.out; have := HK3.out; omega
                            case rel => exact ⟨(wrap64 (x44_2 + 1)), (by first | rfl | (simp; done) | (simp [*]; done)), H', ⟨by have := HK1.out; have := HK2.out; have := HK3.out; omega⟩, ⟨by (with_reducible repeat (first | apply Kd.R_alloc | apply Kd.R_drewN | apply Kd.R_drew)); exact HO_8.out⟩, ⟨by (with_reducible repeat (first | apply Kd.R_alloc | apply Kd.R_drewN | apply Kd.R_drew)); exact HO_42.out⟩, ⟨by repeat (first | (with_reducible first | exact HB.out | apply below_alloc | apply pw_below_drewN | apply below_drew1) | exact HB.out)⟩⟩
                        · replace c25 := Bool.eq_false_iff.mpr c25
                          subst c25
                          have H1 : (if (x16_3 != false) = true then (some false) else (kauditlaw37_NamesAgree.l1 k3 t246 (wrap64 (1 + (Int.tmod (wrap64 (a1)) 2))) (Int.tmod (wrap64 (a2)) 9) x11_1 t251 false y253 (y253.length : Int) (wrap64 (x44_2 + 1)))) = some r := by rw [if_neg (show ¬ (false = true) by decide)] at H; exact H
                          clear H
                          have H := H1
                          clear H1
                          by_cases c27 : (x16_3 != false) = true
                          · rw [if_pos c27] at H
                            have c27b0 : (x16_3 != false) = true := c27
                            (try (have c27b1 : decide (x16_3 = false) = false := by simpa using c27))
                            (try (have c27b2 : (x16_3 == false) = false := by simpa using c27))
                            (try (have c27b3 : ¬ (x16_3 = false) := by simpa using c27))
                            clear c27
                            obtain rfl := Option.some.inj H
                            go_wp2
                            go_ret
                            exact ⟨by first | rfl | (simp only [show ∀ l_ : List UInt8, (l_ != ([] : List UInt8)) = !l_.isEmpty from (fun l_ => by cases l_ <;> rfl), show ∀ l_ : List UInt8, (l_ == ([] : List UInt8)) = l_.isEmpty from (fun l_ => by cases l_ <;> rfl)]; rfl) | (simp [errW_none, errW_some] <;> rfl) | (simp [*, errW_none, errW_some] <;> rfl), by repeat (first | (with_reducible first | exact HB.out | apply below_alloc | apply pw_below_drewN | apply below_drew1) | exact HB.out)⟩
                          · rw [if_neg c27] at H
                            have c27b0 : (x16_3 != false) = false := by simpa using c27
                            (try (have c27b1 : decide (x16_3 = false) = true := by simpa using c27))
                            (try (have c27b2 : (x16_3 == false) = true := by simpa using c27))
                            clear c27
                            have H' := Aside0.mk H
                            clear H
                            go_wp2
                            go_roundg k3
                            case measure => have := HK1.out; have := HK2.out; have := HK3.out; omega
                            case rel => exact ⟨(wrap64 (x44_2 + 1)), (by first | rfl | (simp; done) | (simp [*]; done)), H', ⟨by have := HK1.out; have := HK2.out; have := HK3.out; omega⟩, ⟨by (with_reducible repeat (first | apply Kd.R_alloc | apply Kd.R_drewN | apply Kd.R_drew)); exact HO_8.out⟩, ⟨by (with_reducible repeat (first | apply Kd.R_alloc | apply Kd.R_drewN | apply Kd.R_drew)); exact HO_42.out⟩, ⟨by repeat (first | (with_reducible first | exact HB.out | apply below_alloc | apply pw_below_drewN | apply below_drew1) | exact HB.out)⟩⟩
                · rw [if_neg c17] at H
                  exact absurd H (by simp)
              · rw [if_neg c16] at H
                exact absurd H (by simp)
            · rw [if_neg c15] at H
              have c15b0 : decide (x44_2 < (y253.length : Int)) = false := decide_eq_false c15
              clear c15
              have H' := Aside0.mk H
              clear H
              go_wp2
              go_roundg k2
              case measure => have := HK1.out; have := HK2.out; omega
              case rel => exact ⟨(wrap64 (x11_1 + 1)), (by first | rfl | (simp; done) | (simp [*]; done)), H', ⟨by have := HK1.out; have := HK2.out; omega⟩, ⟨by (with_reducible repeat (first | apply Kd.R_alloc | apply Kd.R_drewN | apply Kd.R_drew)); exact HO_8.out⟩, ⟨by repeat (first | (with_reducible first | exact HB.out | apply below_alloc | apply pw_below_drewN | apply below_drew1) | exact HB.out)⟩⟩
      · rw [if_neg c8] at H
        have c8b0 : decide (x11_1 < 12) = false := decide_eq_false c8
        clear c8
        replace H := Option.bind_eq_some_iff.mp H
        obtain ⟨t250, A280, H⟩ := H
        replace H : (some t250) = some r := H
        have A28 := Aside0.mk A280
        clear A280
        obtain rfl := Option.some.inj H
        go_wp2_with (first | ((with_reducible refine gate_callee (f := 14) rfl ?_); refine goesL_ (some 74) rfl rfl Tryd.func14 (by kernel_rfl) rfl #[] rfl (by (try simp only [List.map_toArray, List.map_cons, List.map_nil]); first | done | rfl | (simp only [List.length_drop, List.length_take]; rfl)) ?_; (with_reducible refine (kauditlaw37_begun.calls k1  t250 _ A28.out).mono ?_); rintro e w29 ⟨rfl, hb⟩; refine ⟨_, rfl, ?_⟩; have n0_ := Aside0.mk (Kd.R_below (by (with_reducible repeat (first | apply Kd.R_alloc | apply Kd.R_drewN | apply Kd.R_drew)); exact HO_8.out) hb); have n1_ := Aside0.mk (below_step (by repeat (first | (with_reducible first | exact HB.out | apply below_alloc | apply pw_below_drewN | apply below_drew1) | exact HB.out)) hb); clear HO_8; clear HB; have HO_8 := n0_; have HB := n1_; clear n0_ n1_; (try clear hb); (try clear hb2); (try clear hk); (try clear hi)))
        go_ret
        exact ⟨by first | rfl | (simp only [show ∀ l_ : List UInt8, (l_ != ([] : List UInt8)) = !l_.isEmpty from (fun l_ => by cases l_ <;> rfl), show ∀ l_ : List UInt8, (l_ == ([] : List UInt8)) = l_.isEmpty from (fun l_ => by cases l_ <;> rfl)]; rfl) | (simp [errW_none, errW_some] <;> rfl) | (simp [*, errW_none, errW_some] <;> rfl), by repeat (first | (with_reducible first | exact HB.out | apply below_alloc | apply pw_below_drewN | apply below_drew1) | exact HB.out)⟩

end Go.Proofs.YtkhdejefolegpaaDoor.Q
