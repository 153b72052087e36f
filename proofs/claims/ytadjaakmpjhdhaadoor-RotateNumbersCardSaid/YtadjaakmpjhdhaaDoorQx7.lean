-- Printed by px.py: a changed copy of the kit's printer, with contracts of this session's own in it. Not trusted: Lean checks it.
import Derived.Test.YtadjaakmpjhdhaaDoorQx0
import Derived.Test.YtadjaakmpjhdhaaDoorQx1
import Derived.Test.YtadjaakmpjhdhaaDoorQx2
import Derived.Test.YtadjaakmpjhdhaaDoorQx3
import Derived.Test.YtadjaakmpjhdhaaDoorQx5
import Derived.Test.YtadjaakmpjhdhaaDoorQx6
namespace Go.Proofs.YtadjaakmpjhdhaaDoor.Q
open Go.RowKit Go.Proofs.YtadjaakmpjhdhaaDoorW.PrintWords Go.Proofs.YtadjaakmpjhdhaaDoorW.PrintLast Go.Proofs.YtadjaakmpjhdhaaDoorW.PrintMore
attribute [local go_sem] max2_int min2_int max_two min_two max_three min_three max_four min_four   -- for this text's walks alone
set_option linter.unusedVariables false
set_option linter.unusedSimpArgs false

/-! ### kauditlaw26_RotateBack: function 7 -/
def kauditlaw26_RotateBack.f (k : Nat) (a0 : Int) (a1 : Int) : Option (Bool) := (rotate_Name.f (wrap64 (1 + (Int.tmod (wrap64 (a0)) 1000)))).bind fun t283 => ((rotate_Number.f k t283).bind fun bt284 => ((rotate_Packed.f (wrap64 (1 + (Int.tmod (wrap64 (a0)) 1000)))).bind fun t287 => ((rotate_Number.f k t287).bind fun bt288 => (if bt284.2.1 = true then (if bt284.2.2 = true then (some false) else (if bt284.1 = (wrap64 (1 + (Int.tmod (wrap64 (a0)) 1000))) then (if bt288.2.1 = true then (if bt288.2.2 = true then (if bt288.1 = (wrap64 (1 + (Int.tmod (wrap64 (a0)) 1000))) then ((rotate_Name.f (wrap64 (1 + (Int.tmod (wrap64 (a0)) 1000)))).bind fun t291 => ((rotate_Name.f (wrap64 (1 + (Int.tmod (wrap64 (a1)) 1000)))).bind fun t292 => (if ((t291.toList == t292.toList) == ((wrap64 (1 + (Int.tmod (wrap64 (a0)) 1000))) == (wrap64 (1 + (Int.tmod (wrap64 (a1)) 1000))))) = true then ((kauditlaw26_begun.f k).bind fun t293 => (some t293)) else (some false)))) else (some false)) else (some false)) else (some false)) else (some false))) else (some false)))))
theorem kauditlaw26_RotateBack.mono : ∀ a0 a1 k, LeO (kauditlaw26_RotateBack.f k a0 a1) (kauditlaw26_RotateBack.f (k + 1) a0 a1) := by
  intro a0 a1 k
  unfold kauditlaw26_RotateBack.f
  repeat' first
      | (with_reducible exact kauditlaw26_begun.mono _)
      | (with_reducible exact rotate_Number.mono _ _)
      | (with_reducible exact LeO.refl _)
      | (with_reducible exact LeO.none _)
      | (with_reducible refine LeO.ite ?_ ?_)
      | (with_reducible refine LeO.bind ?_ (fun _ => ?_))
      | exact kauditlaw26_begun.mono _
      | exact rotate_Number.mono _ _
      | exact LeO.none _
      | refine LeO.ite ?_ ?_
      | refine LeO.bind ?_ (fun _ => ?_)
set_option maxHeartbeats 8000000 in
set_option maxRecDepth 100000 in
theorem kauditlaw26_RotateBack.calls (k : Nat) (a0 : Int) (a1 : Int) (r : Bool) (w : World) (hT : TabOk w) (h : kauditlaw26_RotateBack.f k a0 a1 = some r) :
    Calls Tryd.prog 7 #[.int .u16 a0, .int .u16 a1] w fun e w' => e = .returned (.bool r) ∧ Below w.heap.size w w' := by
  have HT := Aside0.mk hT
  clear hT
  have HB := Aside0.mk (Below.refl w.heap.size w)
  have H : ((rotate_Name.f (wrap64 (1 + (Int.tmod (wrap64 (a0)) 1000)))).bind fun t283 => ((rotate_Number.f k t283).bind fun bt284 => ((rotate_Packed.f (wrap64 (1 + (Int.tmod (wrap64 (a0)) 1000)))).bind fun t287 => ((rotate_Number.f k t287).bind fun bt288 => (if bt284.2.1 = true then (if bt284.2.2 = true then (some false) else (if bt284.1 = (wrap64 (1 + (Int.tmod (wrap64 (a0)) 1000))) then (if bt288.2.1 = true then (if bt288.2.2 = true then (if bt288.1 = (wrap64 (1 + (Int.tmod (wrap64 (a0)) 1000))) then ((rotate_Name.f (wrap64 (1 + (Int.tmod (wrap64 (a0)) 1000)))).bind fun t291 => ((rotate_Name.f (wrap64 (1 + (Int.tmod (wrap64 (a1)) 1000)))).bind fun t292 => (if ((t291.toList == t292.toList) == ((wrap64 (1 + (Int.tmod (wrap64 (a0)) 1000))) == (wrap64 (1 + (Int.tmod (wrap64 (a1)) 1000))))) = true then ((kauditlaw26_begun.f k).bind fun t293 => (some t293)) else (some false)))) else (some false)) else (some false)) else (some false)) else (some false))) else (some false)))))) = some r := h
  clear h
  replace H := Option.bind_eq_some_iff.mp H
  obtain ⟨t283, A30, H⟩ := H
  replace H : ((rotate_Number.f k t283).bind fun bt284 => ((rotate_Packed.f (wrap64 (1 + (Int.tmod (wrap64 (a0)) 1000)))).bind fun t287 => ((rotate_Number.f k t287).bind fun bt288 => (if bt284.2.1 = true then (if bt284.2.2 = true then (some false) else (if bt284.1 = (wrap64 (1 + (Int.tmod (wrap64 (a0)) 1000))) then (if bt288.2.1 = true then (if bt288.2.2 = true then (if bt288.1 = (wrap64 (1 + (Int.tmod (wrap64 (a0)) 1000))) then ((rotate_Name.f (wrap64 (1 + (Int.tmod (wrap64 (a0)) 1000)))).bind fun t291 => ((rotate_Name.f (wrap64 (1 + (Int.tmod (wrap64 (a1)) 1000)))).bind fun t292 => (if ((t291.toList == t292.toList) == ((wrap64 (1 + (Int.tmod (wrap64 (a0)) 1000))) == (wrap64 (1 + (Int.tmod (wrap64 (a1)) 1000))))) = true then ((kauditlaw26_begun.f k).bind fun t293 => (some t293)) else (some false)))) else (some false)) else (some false)) else (some false)) else (some false))) else (some false))))) = some r := H
  have A3 := Aside0.mk A30
  clear A30
  replace H := Option.bind_eq_some_iff.mp H
  obtain ⟨⟨t284, t285, t286⟩, A40, H⟩ := H
  replace H : ((rotate_Packed.f (wrap64 (1 + (Int.tmod (wrap64 (a0)) 1000)))).bind fun t287 => ((rotate_Number.f k t287).bind fun bt288 => (if t285 = true then (if t286 = true then (some false) else (if t284 = (wrap64 (1 + (Int.tmod (wrap64 (a0)) 1000))) then (if bt288.2.1 = true then (if bt288.2.2 = true then (if bt288.1 = (wrap64 (1 + (Int.tmod (wrap64 (a0)) 1000))) then ((rotate_Name.f (wrap64 (1 + (Int.tmod (wrap64 (a0)) 1000)))).bind fun t291 => ((rotate_Name.f (wrap64 (1 + (Int.tmod (wrap64 (a1)) 1000)))).bind fun t292 => (if ((t291.toList == t292.toList) == ((wrap64 (1 + (Int.tmod (wrap64 (a0)) 1000))) == (wrap64 (1 + (Int.tmod (wrap64 (a1)) 1000))))) = true then ((kauditlaw26_begun.f k).bind fun t293 => (some t293)) else (some false)))) else (some false)) else (some false)) else (some false)) else (some false))) else (some false)))) = some r := H
  have A4 := Aside0.mk A40
  clear A40
  replace H := Option.bind_eq_some_iff.mp H
  obtain ⟨t287, A50, H⟩ := H
  replace H : ((rotate_Number.f k t287).bind fun bt288 => (if t285 = true then (if t286 = true then (some false) else (if t284 = (wrap64 (1 + (Int.tmod (wrap64 (a0)) 1000))) then (if bt288.2.1 = true then (if bt288.2.2 = true then (if bt288.1 = (wrap64 (1 + (Int.tmod (wrap64 (a0)) 1000))) then ((rotate_Name.f (wrap64 (1 + (Int.tmod (wrap64 (a0)) 1000)))).bind fun t291 => ((rotate_Name.f (wrap64 (1 + (Int.tmod (wrap64 (a1)) 1000)))).bind fun t292 => (if ((t291.toList == t292.toList) == ((wrap64 (1 + (Int.tmod (wrap64 (a0)) 1000))) == (wrap64 (1 + (Int.tmod (wrap64 (a1)) 1000))))) = true then ((kauditlaw26_begun.f k).bind fun t293 => (some t293)) else (some false)))) else (some false)) else (some false)) else (some false)) else (some false))) else (some false))) = some r := H
  have A5 := Aside0.mk A50
  clear A50
  replace H := Option.bind_eq_some_iff.mp H
  obtain ⟨⟨t288, t289, t290⟩, A60, H⟩ := H
  replace H : (if t285 = true then (if t286 = true then (some false) else (if t284 = (wrap64 (1 + (Int.tmod (wrap64 (a0)) 1000))) then (if t289 = true then (if t290 = true then (if t288 = (wrap64 (1 + (Int.tmod (wrap64 (a0)) 1000))) then ((rotate_Name.f (wrap64 (1 + (Int.tmod (wrap64 (a0)) 1000)))).bind fun t291 => ((rotate_Name.f (wrap64 (1 + (Int.tmod (wrap64 (a1)) 1000)))).bind fun t292 => (if ((t291.toList == t292.toList) == ((wrap64 (1 + (Int.tmod (wrap64 (a0)) 1000))) == (wrap64 (1 + (Int.tmod (wrap64 (a1)) 1000))))) = true then ((kauditlaw26_begun.f k).bind fun t293 => (some t293)) else (some false)))) else (some false)) else (some false)) else (some false)) else (some false))) else (some false)) = some r := H
  have A6 := Aside0.mk A60
  clear A60
  by_cases c7 : t285 = true
  · subst c7
    have H1 : (if t286 = true then (some false) else (if t284 = (wrap64 (1 + (Int.tmod (wrap64 (a0)) 1000))) then (if t289 = true then (if t290 = true then (if t288 = (wrap64 (1 + (Int.tmod (wrap64 (a0)) 1000))) then ((rotate_Name.f (wrap64 (1 + (Int.tmod (wrap64 (a0)) 1000)))).bind fun t291 => ((rotate_Name.f (wrap64 (1 + (Int.tmod (wrap64 (a1)) 1000)))).bind fun t292 => (if ((t291.toList == t292.toList) == ((wrap64 (1 + (Int.tmod (wrap64 (a0)) 1000))) == (wrap64 (1 + (Int.tmod (wrap64 (a1)) 1000))))) = true then ((kauditlaw26_begun.f k).bind fun t293 => (some t293)) else (some false)))) else (some false)) else (some false)) else (some false)) else (some false))) = some r := by rw [if_pos rfl] at H; exact H
    clear H
    have H := H1
    clear H1
    by_cases c8 : t286 = true
    · subst c8
      have H1 : (some false) = some r := by rw [if_pos rfl] at H; exact H
      clear H
      have H := H1
      clear H1
      obtain rfl := Option.some.inj H
      go_enter Tryd.func7, Tryd.ntmps7
      go_wp2_with (first | ((with_reducible refine gate_callee (f := 22) rfl ?_); refine goesL_ (some 23) rfl rfl Tryd.func22 (by kernel_rfl) rfl #[.int .i64 (wrap64 (1 + (Int.tmod (wrap64 (a0)) 1000)))] rfl (by (try simp only [List.map_toArray, List.map_cons, List.map_nil]); first | done | rfl | (simp only [List.length_drop, List.length_take]; rfl)) ?_; (with_reducible refine (rotate_Name.calls (wrap64 (1 + (Int.tmod (wrap64 (a0)) 1000))) t283 _ ?side1 A3.out).mono ?_); (case side1 => exact TabOk.below HT.out (by repeat (first | (with_reducible first | exact HB.out | apply below_alloc | apply pw_below_drewN | apply below_drew1) | exact HB.out))); rintro e w9 ⟨rfl, hb⟩; refine ⟨_, rfl, ?_⟩; have n0_ := Aside0.mk (below_step (by repeat (first | (with_reducible first | exact HB.out | apply below_alloc | apply pw_below_drewN | apply below_drew1) | exact HB.out)) hb); clear HB; have HB := n0_; clear n0_; (try clear hb); (try clear hb2); (try clear hk); (try clear hi)) | ((with_reducible refine gate_callee (f := 24) rfl ?_); refine goesL_ (some 24) rfl rfl Tryd.func24 (by kernel_rfl) rfl #[.string t283] rfl (by (try simp only [List.map_toArray, List.map_cons, List.map_nil]); first | done | rfl | (simp only [List.length_drop, List.length_take]; rfl)) ?_; (with_reducible refine (rotate_Number.calls k t283 t284 true true _ A4.out).mono ?_); rintro e w' ⟨rfl, ⟨nd, rfl⟩⟩; refine ⟨_, rfl, ?_⟩) | ((with_reducible refine gate_callee (f := 23) rfl ?_); refine goesL_ (some 30) rfl rfl Tryd.func23 (by kernel_rfl) rfl #[.int .i64 (wrap64 (1 + (Int.tmod (wrap64 (a0)) 1000)))] rfl (by (try simp only [List.map_toArray, List.map_cons, List.map_nil]); first | done | rfl | (simp only [List.length_drop, List.length_take]; rfl)) ?_; (with_reducible refine (rotate_Packed.calls (wrap64 (1 + (Int.tmod (wrap64 (a0)) 1000))) t287 _ ?side1 A5.out).mono ?_); (case side1 => exact TabOk.below HT.out (by repeat (first | (with_reducible first | exact HB.out | apply below_alloc | apply pw_below_drewN | apply below_drew1) | exact HB.out))); rintro e w10 ⟨rfl, hb⟩; refine ⟨_, rfl, ?_⟩; have n0_ := Aside0.mk (below_step (by repeat (first | (with_reducible first | exact HB.out | apply below_alloc | apply pw_below_drewN | apply below_drew1) | exact HB.out)) hb); clear HB; have HB := n0_; clear n0_; (try clear hb); (try clear hb2); (try clear hk); (try clear hi)) | ((with_reducible refine gate_callee (f := 24) rfl ?_); refine goesL_ (some 31) rfl rfl Tryd.func24 (by kernel_rfl) rfl #[.string t287] rfl (by (try simp only [List.map_toArray, List.map_cons, List.map_nil]); first | done | rfl | (simp only [List.length_drop, List.length_take]; rfl)) ?_; (with_reducible refine (rotate_Number.calls k t287 t288 t289 t290 _ A6.out).mono ?_); rintro e w' ⟨rfl, ⟨nd, rfl⟩⟩; refine ⟨_, rfl, ?_⟩))
      go_ret
      exact ⟨by first | rfl | (simp [errW_none, errW_some] <;> rfl) | (simp [*, errW_none, errW_some] <;> rfl), by repeat (first | (with_reducible first | exact HB.out | apply below_alloc | apply pw_below_drewN | apply below_drew1) | exact HB.out)⟩
    · replace c8 := Bool.eq_false_iff.mpr c8
      subst c8
      have H1 : (if t284 = (wrap64 (1 + (Int.tmod (wrap64 (a0)) 1000))) then (if t289 = true then (if t290 = true then (if t288 = (wrap64 (1 + (Int.tmod (wrap64 (a0)) 1000))) then ((rotate_Name.f (wrap64 (1 + (Int.tmod (wrap64 (a0)) 1000)))).bind fun t291 => ((rotate_Name.f (wrap64 (1 + (Int.tmod (wrap64 (a1)) 1000)))).bind fun t292 => (if ((t291.toList == t292.toList) == ((wrap64 (1 + (Int.tmod (wrap64 (a0)) 1000))) == (wrap64 (1 + (Int.tmod (wrap64 (a1)) 1000))))) = true then ((kauditlaw26_begun.f k).bind fun t293 => (some t293)) else (some false)))) else (some false)) else (some false)) else (some false)) else (some false)) = some r := by rw [if_neg (show ¬ (false = true) by decide)] at H; exact H
      clear H
      have H := H1
      clear H1
      by_cases c11 : t284 = (wrap64 (1 + (Int.tmod (wrap64 (a0)) 1000)))
      · rw [if_pos c11] at H
        have c11b0 : (t284 == (wrap64 (1 + (Int.tmod (wrap64 (a0)) 1000)))) = true := beq_iff_eq.mpr c11
        have c11b1 : (t284 != (wrap64 (1 + (Int.tmod (wrap64 (a0)) 1000)))) = false := bne_eq_false_iff_eq.mpr c11
        clear c11
        by_cases c12 : t289 = true
        · subst c12
          have H1 : (if t290 = true then (if t288 = (wrap64 (1 + (Int.tmod (wrap64 (a0)) 1000))) then ((rotate_Name.f (wrap64 (1 + (Int.tmod (wrap64 (a0)) 1000)))).bind fun t291 => ((rotate_Name.f (wrap64 (1 + (Int.tmod (wrap64 (a1)) 1000)))).bind fun t292 => (if ((t291.toList == t292.toList) == ((wrap64 (1 + (Int.tmod (wrap64 (a0)) 1000))) == (wrap64 (1 + (Int.tmod (wrap64 (a1)) 1000))))) = true then ((kauditlaw26_begun.f k).bind fun t293 => (some t293)) else (some false)))) else (some false)) else (some false)) = some r := by rw [if_pos rfl] at H; exact H
          clear H
          have H := H1
          clear H1
          by_cases c13 : t290 = true
          · subst c13
            have H1 : (if t288 = (wrap64 (1 + (Int.tmod (wrap64 (a0)) 1000))) then ((rotate_Name.f (wrap64 (1 + (Int.tmod (wrap64 (a0)) 1000)))).bind fun t291 => ((rotate_Name.f (wrap64 (1 + (Int.tmod (wrap64 (a1)) 1000)))).bind fun t292 => (if ((t291.toList == t292.toList) == ((wrap64 (1 + (Int.tmod (wrap64 (a0)) 1000))) == (wrap64 (1 + (Int.tmod (wrap64 (a1)) 1000))))) = true then ((kauditlaw26_begun.f k).bind fun t293 => (some t293)) else (some false)))) else (some false)) = some r := by rw [if_pos rfl] at H; exact H
            clear H
            have H := H1
            clear H1
            by_cases c14 : t288 = (wrap64 (1 + (Int.tmod (wrap64 (a0)) 1000)))
            · rw [if_pos c14] at H
              have c14b0 : (t288 == (wrap64 (1 + (Int.tmod (wrap64 (a0)) 1000)))) = true := beq_iff_eq.mpr c14
              have c14b1 : (t288 != (wrap64 (1 + (Int.tmod (wrap64 (a0)) 1000)))) = false := bne_eq_false_iff_eq.mpr c14
              clear c14
              replace H := Option.bind_eq_some_iff.mp H
              obtain ⟨t291, A150, H⟩ := H
              replace H : ((rotate_Name.f (wrap64 (1 + (Int.tmod (wrap64 (a1)) 1000)))).bind fun t292 => (if ((t291.toList == t292.toList) == ((wrap64 (1 + (Int.tmod (wrap64 (a0)) 1000))) == (wrap64 (1 + (Int.tmod (wrap64 (a1)) 1000))))) = true then ((kauditlaw26_begun.f k).bind fun t293 => (some t293)) else (some false))) = some r := H
              have A15 := Aside0.mk A150
              clear A150
              replace H := Option.bind_eq_some_iff.mp H
              obtain ⟨t292, A160, H⟩ := H
              replace H : (if ((t291.toList == t292.toList) == ((wrap64 (1 + (Int.tmod (wrap64 (a0)) 1000))) == (wrap64 (1 + (Int.tmod (wrap64 (a1)) 1000))))) = true then ((kauditlaw26_begun.f k).bind fun t293 => (some t293)) else (some false)) = some r := H
              have A16 := Aside0.mk A160
              clear A160
              by_cases c17 : ((t291.toList == t292.toList) == ((wrap64 (1 + (Int.tmod (wrap64 (a0)) 1000))) == (wrap64 (1 + (Int.tmod (wrap64 (a1)) 1000))))) = true
              · rw [if_pos c17] at H
                have c17b0 : ((t291.toList == t292.toList) == ((wrap64 (1 + (Int.tmod (wrap64 (a0)) 1000))) == (wrap64 (1 + (Int.tmod (wrap64 (a1)) 1000))))) = true := c17
                (try (have c17b1 : decide ((t291.toList == t292.toList) = ((wrap64 (1 + (Int.tmod (wrap64 (a0)) 1000))) == (wrap64 (1 + (Int.tmod (wrap64 (a1)) 1000))))) = true := by simpa using c17))
                (try (have c17b2 : ((t291.toList == t292.toList) == ((wrap64 (1 + (Int.tmod (wrap64 (a0)) 1000))) == (wrap64 (1 + (Int.tmod (wrap64 (a1)) 1000))))) = true := by simpa using c17))
                clear c17
                replace H := Option.bind_eq_some_iff.mp H
                obtain ⟨t293, A180, H⟩ := H
                replace H : (some t293) = some r := H
                have A18 := Aside0.mk A180
                clear A180
                obtain rfl := Option.some.inj H
                go_enter Tryd.func7, Tryd.ntmps7
                go_wp2_with (first | ((with_reducible refine gate_callee (f := 22) rfl ?_); refine goesL_ (some 23) rfl rfl Tryd.func22 (by kernel_rfl) rfl #[.int .i64 (wrap64 (1 + (Int.tmod (wrap64 (a0)) 1000)))] rfl (by (try simp only [List.map_toArray, List.map_cons, List.map_nil]); first | done | rfl | (simp only [List.length_drop, List.length_take]; rfl)) ?_; (with_reducible refine (rotate_Name.calls (wrap64 (1 + (Int.tmod (wrap64 (a0)) 1000))) t283 _ ?side1 A3.out).mono ?_); (case side1 => exact TabOk.below HT.out (by repeat (first | (with_reducible first | exact HB.out | apply below_alloc | apply pw_below_drewN | apply below_drew1) | exact HB.out))); rintro e w19 ⟨rfl, hb⟩; refine ⟨_, rfl, ?_⟩; have n0_ := Aside0.mk (below_step (by repeat (first | (with_reducible first | exact HB.out | apply below_alloc | apply pw_below_drewN | apply below_drew1) | exact HB.out)) hb); clear HB; have HB := n0_; clear n0_; (try clear hb); (try clear hb2); (try clear hk); (try clear hi)) | ((with_reducible refine gate_callee (f := 24) rfl ?_); refine goesL_ (some 24) rfl rfl Tryd.func24 (by kernel_rfl) rfl #[.string t283] rfl (by (try simp only [List.map_toArray, List.map_cons, List.map_nil]); first | done | rfl | (simp only [List.length_drop, List.length_take]; rfl)) ?_; (with_reducible refine (rotate_Number.calls k t283 t284 true false _ A4.out).mono ?_); rintro e w' ⟨rfl, ⟨nd, rfl⟩⟩; refine ⟨_, rfl, ?_⟩) | ((with_reducible refine gate_callee (f := 23) rfl ?_); refine goesL_ (some 30) rfl rfl Tryd.func23 (by kernel_rfl) rfl #[.int .i64 (wrap64 (1 + (Int.tmod (wrap64 (a0)) 1000)))] rfl (by (try simp only [List.map_toArray, List.map_cons, List.map_nil]); first | done | rfl | (simp only [List.length_drop, List.length_take]; rfl)) ?_; (with_reducible refine (rotate_Packed.calls (wrap64 (1 + (Int.tmod (wrap64 (a0)) 1000))) t287 _ ?side1 A5.out).mono ?_); (case side1 => exact TabOk.below HT.out (by repeat (first | (with_reducible first | exact HB.out | apply below_alloc | apply pw_below_drewN | apply below_drew1) | exact HB.out))); rintro e w20 ⟨rfl, hb⟩; refine ⟨_, rfl, ?_⟩; have n0_ := Aside0.mk (below_step (by repeat (first | (with_reducible first | exact HB.out | apply below_alloc | apply pw_below_drewN | apply below_drew1) | exact HB.out)) hb); clear HB; have HB := n0_; clear n0_; (try clear hb); (try clear hb2); (try clear hk); (try clear hi)) | ((with_reducible refine gate_callee (f := 24) rfl ?_); refine goesL_ (some 31) rfl rfl Tryd.func24 (by kernel_rfl) rfl #[.string t287] rfl (by (try simp only [List.map_toArray, List.map_cons, List.map_nil]); first | done | rfl | (simp only [List.length_drop, List.length_take]; rfl)) ?_; (with_reducible refine (rotate_Number.calls k t287 t288 true true _ A6.out).mono ?_); rintro e w' ⟨rfl, ⟨nd, rfl⟩⟩; refine ⟨_, rfl, ?_⟩) | (go_at_call 22; (with_reducible refine (rotate_Name.calls (wrap64 (1 + (Int.tmod (wrap64 (a0)) 1000))) t291 _ ?side1 A15.out).mono ?_); (case side1 => exact TabOk.below HT.out (by repeat (first | (with_reducible first | exact HB.out | apply below_alloc | apply pw_below_drewN | apply below_drew1) | exact HB.out))); rintro e w21 ⟨rfl, hb⟩; have n0_ := Aside0.mk (below_step (by repeat (first | (with_reducible first | exact HB.out | apply below_alloc | apply pw_below_drewN | apply below_drew1) | exact HB.out)) hb); clear HB; have HB := n0_; clear n0_; (try clear hb); (try clear hb2); (try clear hk); (try clear hi)) | (go_at_call 22; (with_reducible refine (rotate_Name.calls (wrap64 (1 + (Int.tmod (wrap64 (a1)) 1000))) t292 _ ?side1 A16.out).mono ?_); (case side1 => exact TabOk.below HT.out (by repeat (first | (with_reducible first | exact HB.out | apply below_alloc | apply pw_below_drewN | apply below_drew1) | exact HB.out))); rintro e w22 ⟨rfl, hb⟩; have n0_ := Aside0.mk (below_step (by repeat (first | (with_reducible first | exact HB.out | apply below_alloc | apply pw_below_drewN | apply below_drew1) | exact HB.out)) hb); clear HB; have HB := n0_; clear n0_; (try clear hb); (try clear hb2); (try clear hk); (try clear hi)) | (go_at_call 16; (with_reducible refine (kauditlaw26_begun.calls k  t293 _ ?side1 A18.out).mono ?_); (case side1 => exact TabOk.below HT.out (by repeat (first | (with_reducible first | exact HB.out | apply below_alloc | apply pw_below_drewN | apply below_drew1) | exact HB.out))); rintro e w23 ⟨rfl, hb⟩; have n0_ := Aside0.mk (below_step (by repeat (first | (with_reducible first | exact HB.out | apply below_alloc | apply pw_below_drewN | apply below_drew1) | exact HB.out)) hb); clear HB; have HB := n0_; clear n0_; (try clear hb); (try clear hb2); (try clear hk); (try clear hi)))
                go_ret
                exact ⟨by first | rfl | (simp [errW_none, errW_some] <;> rfl) | (simp [*, errW_none, errW_some] <;> rfl), by repeat (first | (with_reducible first | exact HB.out | apply below_alloc | apply pw_below_drewN | apply below_drew1) | exact HB.out)⟩
              · rw [if_neg c17] at H
                have c17b0 : ((t291.toList == t292.toList) == ((wrap64 (1 + (Int.tmod (wrap64 (a0)) 1000))) == (wrap64 (1 + (Int.tmod (wrap64 (a1)) 1000))))) = false := by simpa using c17
                (try (have c17b1 : decide ((t291.toList == t292.toList) = ((wrap64 (1 + (Int.tmod (wrap64 (a0)) 1000))) == (wrap64 (1 + (Int.tmod (wrap64 (a1)) 1000))))) = false := by simpa using c17))
                (try (have c17b2 : ((t291.toList == t292.toList) == ((wrap64 (1 + (Int.tmod (wrap64 (a0)) 1000))) == (wrap64 (1 + (Int.tmod (wrap64 (a1)) 1000))))) = false := by simpa using c17))
                (try (have c17b3 : ¬ ((t291.toList == t292.toList) = ((wrap64 (1 + (Int.tmod (wrap64 (a0)) 1000))) == (wrap64 (1 + (Int.tmod (wrap64 (a1)) 1000))))) := by simpa using c17))
                clear c17
                obtain rfl := Option.some.inj H
                go_enter Tryd.func7, Tryd.ntmps7
                go_wp2_with (first | ((with_reducible refine gate_callee (f := 22) rfl ?_); refine goesL_ (some 23) rfl rfl Tryd.func22 (by kernel_rfl) rfl #[.int .i64 (wrap64 (1 + (Int.tmod (wrap64 (a0)) 1000)))] rfl (by (try simp only [List.map_toArray, List.map_cons, List.map_nil]); first | done | rfl | (simp only [List.length_drop, List.length_take]; rfl)) ?_; (with_reducible refine (rotate_Name.calls (wrap64 (1 + (Int.tmod (wrap64 (a0)) 1000))) t283 _ ?side1 A3.out).mono ?_); (case side1 => exact TabOk.below HT.out (by repeat (first | (with_reducible first | exact HB.out | apply below_alloc | apply pw_below_drewN | apply below_drew1) | exact HB.out))); rintro e w24 ⟨rfl, hb⟩; refine ⟨_, rfl, ?_⟩; have n0_ := Aside0.mk (below_step (by repeat (first | (with_reducible first | exact HB.out | apply below_alloc | apply pw_below_drewN | apply below_drew1) | exact HB.out)) hb); clear HB; have HB := n0_; clear n0_; (try clear hb); (try clear hb2); (try clear hk); (try clear hi)) | ((with_reducible refine gate_callee (f := 24) rfl ?_); refine goesL_ (some 24) rfl rfl Tryd.func24 (by kernel_rfl) rfl #[.string t283] rfl (by (try simp only [List.map_toArray, List.map_cons, List.map_nil]); first | done | rfl | (simp only [List.length_drop, List.length_take]; rfl)) ?_; (with_reducible refine (rotate_Number.calls k t283 t284 true false _ A4.out).mono ?_); rintro e w' ⟨rfl, ⟨nd, rfl⟩⟩; refine ⟨_, rfl, ?_⟩) | ((with_reducible refine gate_callee (f := 23) rfl ?_); refine goesL_ (some 30) rfl rfl Tryd.func23 (by kernel_rfl) rfl #[.int .i64 (wrap64 (1 + (Int.tmod (wrap64 (a0)) 1000)))] rfl (by (try simp only [List.map_toArray, List.map_cons, List.map_nil]); first | done | rfl | (simp only [List.length_drop, List.length_take]; rfl)) ?_; (with_reducible refine (rotate_Packed.calls (wrap64 (1 + (Int.tmod (wrap64 (a0)) 1000))) t287 _ ?side1 A5.out).mono ?_); (case side1 => exact TabOk.below HT.out (by repeat (first | (with_reducible first | exact HB.out | apply below_alloc | apply pw_below_drewN | apply below_drew1) | exact HB.out))); rintro e w25 ⟨rfl, hb⟩; refine ⟨_, rfl, ?_⟩; have n0_ := Aside0.mk (below_step (by repeat (first | (with_reducible first | exact HB.out | apply below_alloc | apply pw_below_drewN | apply below_drew1) | exact HB.out)) hb); clear HB; have HB := n0_; clear n0_; (try clear hb); (try clear hb2); (try clear hk); (try clear hi)) | ((with_reducible refine gate_callee (f := 24) rfl ?_); refine goesL_ (some 31) rfl rfl Tryd.func24 (by kernel_rfl) rfl #[.string t287] rfl (by (try simp only [List.map_toArray, List.map_cons, List.map_nil]); first | done | rfl | (simp only [List.length_drop, List.length_take]; rfl)) ?_; (with_reducible refine (rotate_Number.calls k t287 t288 true true _ A6.out).mono ?_); rintro e w' ⟨rfl, ⟨nd, rfl⟩⟩; refine ⟨_, rfl, ?_⟩) | (go_at_call 22; (with_reducible refine (rotate_Name.calls (wrap64 (1 + (Int.tmod (wrap64 (a0)) 1000))) t291 _ ?side1 A15.out).mono ?_); (case side1 => exact TabOk.below HT.out (by repeat (first | (with_reducible first | exact HB.out | apply below_alloc | apply pw_below_drewN | apply below_drew1) | exact HB.out))); rintro e w26 ⟨rfl, hb⟩; have n0_ := Aside0.mk (below_step (by repeat (first | (with_reducible first | exact HB.out | apply below_alloc | apply pw_below_drewN | apply below_drew1) | exact HB.out)) hb); clear HB; have HB := n0_; clear n0_; (try clear hb); (try clear hb2); (try clear hk); (try clear hi)) | (go_at_call 22; (with_reducible refine (rotate_Name.calls (wrap64 (1 + (Int.tmod (wrap64 (a1)) 1000))) t292 _ ?side1 A16.out).mono ?_); (case side1 => exact TabOk.below HT.out (by repeat (first | (with_reducible first | exact HB.out | apply below_alloc | apply pw_below_drewN | apply below_drew1) | exact HB.out))); rintro e w27 ⟨rfl, hb⟩; have n0_ := Aside0.mk (below_step (by repeat (first | (with_reducible first | exact HB.out | apply below_alloc | apply pw_below_drewN | apply below_drew1) | exact HB.out)) hb); clear HB; have HB := n0_; clear n0_; (try clear hb); (try clear hb2); (try clear hk); (try clear hi)))
                go_ret
                exact ⟨by first | rfl | (simp [errW_none, errW_some] <;> rfl) | (simp [*, errW_none, errW_some] <;> rfl), by repeat (first | (with_reducible first | exact HB.out | apply below_alloc | apply pw_below_drewN | apply below_drew1) | exact HB.out)⟩
            · rw [if_neg c14] at H
              have c14b0 : (t288 == (wrap64 (1 + (Int.tmod (wrap64 (a0)) 1000)))) = false := beq_eq_false_iff_ne.mpr c14
              have c14b1 : (t288 != (wrap64 (1 + (Int.tmod (wrap64 (a0)) 1000)))) = true := bne_iff_ne.mpr c14
              obtain rfl := Option.some.inj H
              go_enter Tryd.func7, Tryd.ntmps7
              go_wp2_with (first | ((with_reducible refine gate_callee (f := 22) rfl ?_); refine goesL_ (some 23) rfl rfl Tryd.func22 (by kernel_rfl) rfl #[.int .i64 (wrap64 (1 + (Int.tmod (wrap64 (a0)) 1000)))] rfl (by (try simp only [List.map_toArray, List.map_cons, List.map_nil]); first | done | rfl | (simp only [List.length_drop, List.length_take]; rfl)) ?_; (with_reducible refine (rotate_Name.calls (wrap64 (1 + (Int.tmod (wrap64 (a0)) 1000))) t283 _ ?side1 A3.out).mono ?_); (case side1 => exact TabOk.below HT.out (by repeat (first | (with_reducible first | exact HB.out | apply below_alloc | apply pw_below_drewN | apply below_drew1) | exact HB.out))); rintro e w28 ⟨rfl, hb⟩; refine ⟨_, rfl, ?_⟩; have n0_ := Aside0.mk (below_step (by repeat (first | (with_reducible first | exact HB.out | apply below_alloc | apply pw_below_drewN | apply below_drew1) | exact HB.out)) hb); clear HB; have HB := n0_; clear n0_; (try clear hb); (try clear hb2); (try clear hk); (try clear hi)) | ((with_reducible refine gate_callee (f := 24) rfl ?_); refine goesL_ (some 24) rfl rfl Tryd.func24 (by kernel_rfl) rfl #[.string t283] rfl (by (try simp only [List.map_toArray, List.map_cons, List.map_nil]); first | done | rfl | (simp only [List.length_drop, List.length_take]; rfl)) ?_; (with_reducible refine (rotate_Number.calls k t283 t284 true false _ A4.out).mono ?_); rintro e w' ⟨rfl, ⟨nd, rfl⟩⟩; refine ⟨_, rfl, ?_⟩) | ((with_reducible refine gate_callee (f := 23) rfl ?_); refine goesL_ (some 30) rfl rfl Tryd.func23 (by kernel_rfl) rfl #[.int .i64 (wrap64 (1 + (Int.tmod (wrap64 (a0)) 1000)))] rfl (by (try simp only [List.map_toArray, List.map_cons, List.map_nil]); first | done | rfl | (simp only [List.length_drop, List.length_take]; rfl)) ?_; (with_reducible refine (rotate_Packed.calls (wrap64 (1 + (Int.tmod (wrap64 (a0)) 1000))) t287 _ ?side1 A5.out).mono ?_); (case side1 => exact TabOk.below HT.out (by repeat (first | (with_reducible first | exact HB.out | apply below_alloc | apply pw_below_drewN | apply below_drew1) | exact HB.out))); rintro e w29 ⟨rfl, hb⟩; refine ⟨_, rfl, ?_⟩; have n0_ := Aside0.mk (below_step (by repeat (first | (with_reducible first | exact HB.out | apply below_alloc | apply pw_below_drewN | apply below_drew1) | exact HB.out)) hb); clear HB; have HB := n0_; clear n0_; (try clear hb); (try clear hb2); (try clear hk); (try clear hi)) | ((with_reducible refine gate_callee (f := 24) rfl ?_); refine goesL_ (some 31) rfl rfl Tryd.func24 (by kernel_rfl) rfl #[.string t287] rfl (by (try simp only [List.map_toArray, List.map_cons, List.map_nil]); first | done | rfl | (simp only [List.length_drop, List.length_take]; rfl)) ?_; (with_reducible refine (rotate_Number.calls k t287 t288 true true _ A6.out).mono ?_); rintro e w' ⟨rfl, ⟨nd, rfl⟩⟩; refine ⟨_, rfl, ?_⟩))
              go_ret
              exact ⟨by first | rfl | (simp [errW_none, errW_some] <;> rfl) | (simp [*, errW_none, errW_some] <;> rfl), by repeat (first | (with_reducible first | exact HB.out | apply below_alloc | apply pw_below_drewN | apply below_drew1) | exact HB.out)⟩
          · replace c13 := Bool.eq_false_iff.mpr c13
            subst c13
            have H1 : (some false) = some r := by rw [if_neg (show ¬ (false = true) by decide)] at H; exact H
            clear H
            have H := H1
            clear H1
            obtain rfl := Option.some.inj H
            go_enter Tryd.func7, Tryd.ntmps7
            go_wp2_with (first | ((with_reducible refine gate_callee (f := 22) rfl ?_); refine goesL_ (some 23) rfl rfl Tryd.func22 (by kernel_rfl) rfl #[.int .i64 (wrap64 (1 + (Int.tmod (wrap64 (a0)) 1000)))] rfl (by (try simp only [List.map_toArray, List.map_cons, List.map_nil]); first | done | rfl | (simp only [List.length_drop, List.length_take]; rfl)) ?_; (with_reducible refine (rotate_Name.calls (wrap64 (1 + (Int.tmod (wrap64 (a0)) 1000))) t283 _ ?side1 A3.out).mono ?_); (case side1 => exact TabOk.below HT.out (by repeat (first | (with_reducible first | exact HB.out | apply below_alloc | apply pw_below_drewN | apply below_drew1) | exact HB.out))); rintro e w30 ⟨rfl, hb⟩; refine ⟨_, rfl, ?_⟩; have n0_ := Aside0.mk (below_step (by repeat (first | (with_reducible first | exact HB.out | apply below_alloc | apply pw_below_drewN | apply below_drew1) | exact HB.out)) hb); clear HB; have HB := n0_; clear n0_; (try clear hb); (try clear hb2); (try clear hk); (try clear hi)) | ((with_reducible refine gate_callee (f := 24) rfl ?_); refine goesL_ (some 24) rfl rfl Tryd.func24 (by kernel_rfl) rfl #[.string t283] rfl (by (try simp only [List.map_toArray, List.map_cons, List.map_nil]); first | done | rfl | (simp only [List.length_drop, List.length_take]; rfl)) ?_; (with_reducible refine (rotate_Number.calls k t283 t284 true false _ A4.out).mono ?_); rintro e w' ⟨rfl, ⟨nd, rfl⟩⟩; refine ⟨_, rfl, ?_⟩) | ((with_reducible refine gate_callee (f := 23) rfl ?_); refine goesL_ (some 30) rfl rfl Tryd.func23 (by kernel_rfl) rfl #[.int .i64 (wrap64 (1 + (Int.tmod (wrap64 (a0)) 1000)))] rfl (by (try simp only [List.map_toArray, List.map_cons, List.map_nil]); first | done | rfl | (simp only [List.length_drop, List.length_take]; rfl)) ?_; (with_reducible refine (rotate_Packed.calls (wrap64 (1 + (Int.tmod (wrap64 (a0)) 1000))) t287 _ ?side1 A5.out).mono ?_); (case side1 => exact TabOk.below HT.out (by repeat (first | (with_reducible first | exact HB.out | apply below_alloc | apply pw_below_drewN | apply below_drew1) | exact HB.out))); rintro e w31 ⟨rfl, hb⟩; refine ⟨_, rfl, ?_⟩; have n0_ := Aside0.mk (below_step (by repeat (first | (with_reducible first | exact HB.out | apply below_alloc | apply pw_below_drewN | apply below_drew1) | exact HB.out)) hb); clear HB; have HB := n0_; clear n0_; (try clear hb); (try clear hb2); (try clear hk); (try clear hi)) | ((with_reducible refine gate_callee (f := 24) rfl ?_); refine goesL_ (some 31) rfl rfl Tryd.func24 (by kernel_rfl) rfl #[.string t287] rfl (by (try simp only [List.map_toArray, List.map_cons, List.map_nil]); first | done | rfl | (simp only [List.length_drop, List.length_take]; rfl)) ?_; (with_reducible refine (rotate_Number.calls k t287 t288 true false _ A6.out).mono ?_); rintro e w' ⟨rfl, ⟨nd, rfl⟩⟩; refine ⟨_, rfl, ?_⟩))
            go_ret
            exact ⟨by first | rfl | (simp [errW_none, errW_some] <;> rfl) | (simp [*, errW_none, errW_some] <;> rfl), by repeat (first | (with_reducible first | exact HB.out | apply below_alloc | apply pw_below_drewN | apply below_drew1) | exact HB.out)⟩
        · replace c12 := Bool.eq_false_iff.mpr c12
          subst c12
          have H1 : (some false) = some r := by rw [if_neg (show ¬ (false = true) by decide)] at H; exact H
          clear H
          have H := H1
          clear H1
          obtain rfl := Option.some.inj H
          go_enter Tryd.func7, Tryd.ntmps7
          go_wp2_with (first | ((with_reducible refine gate_callee (f := 22) rfl ?_); refine goesL_ (some 23) rfl rfl Tryd.func22 (by kernel_rfl) rfl #[.int .i64 (wrap64 (1 + (Int.tmod (wrap64 (a0)) 1000)))] rfl (by (try simp only [List.map_toArray, List.map_cons, List.map_nil]); first | done | rfl | (simp only [List.length_drop, List.length_take]; rfl)) ?_; (with_reducible refine (rotate_Name.calls (wrap64 (1 + (Int.tmod (wrap64 (a0)) 1000))) t283 _ ?side1 A3.out).mono ?_); (case side1 => exact TabOk.below HT.out (by repeat (first | (with_reducible first | exact HB.out | apply below_alloc | apply pw_below_drewN | apply below_drew1) | exact HB.out))); rintro e w32 ⟨rfl, hb⟩; refine ⟨_, rfl, ?_⟩; have n0_ := Aside0.mk (below_step (by repeat (first | (with_reducible first | exact HB.out | apply below_alloc | apply pw_below_drewN | apply below_drew1) | exact HB.out)) hb); clear HB; have HB := n0_; clear n0_; (try clear hb); (try clear hb2); (try clear hk); (try clear hi)) | ((with_reducible refine gate_callee (f := 24) rfl ?_); refine goesL_ (some 24) rfl rfl Tryd.func24 (by kernel_rfl) rfl #[.string t283] rfl (by (try simp only [List.map_toArray, List.map_cons, List.map_nil]); first | done | rfl | (simp only [List.length_drop, List.length_take]; rfl)) ?_; (with_reducible refine (rotate_Number.calls k t283 t284 true false _ A4.out).mono ?_); rintro e w' ⟨rfl, ⟨nd, rfl⟩⟩; refine ⟨_, rfl, ?_⟩) | ((with_reducible refine gate_callee (f := 23) rfl ?_); refine goesL_ (some 30) rfl rfl Tryd.func23 (by kernel_rfl) rfl #[.int .i64 (wrap64 (1 + (Int.tmod (wrap64 (a0)) 1000)))] rfl (by (try simp only [List.map_toArray, List.map_cons, List.map_nil]); first | done | rfl | (simp only [List.length_drop, List.length_take]; rfl)) ?_; (with_reducible refine (rotate_Packed.calls (wrap64 (1 + (Int.tmod (wrap64 (a0)) 1000))) t287 _ ?side1 A5.out).mono ?_); (case side1 => exact TabOk.below HT.out (by repeat (first | (with_reducible first | exact HB.out | apply below_alloc | apply pw_below_drewN | apply below_drew1) | exact HB.out))); rintro e w33 ⟨rfl, hb⟩; refine ⟨_, rfl, ?_⟩; have n0_ := Aside0.mk (below_step (by repeat (first | (with_reducible first | exact HB.out | apply below_alloc | apply pw_below_drewN | apply below_drew1) | exact HB.out)) hb); clear HB; have HB := n0_; clear n0_; (try clear hb); (try clear hb2); (try clear hk); (try clear hi)) | ((with_reducible refine gate_callee (f := 24) rfl ?_); refine goesL_ (some 31) rfl rfl Tryd.func24 (by kernel_rfl) rfl #[.string t287] rfl (by (try simp only [List.map_toArray, List.map_cons, List.map_nil]); first | done | rfl | (simp only [List.length_drop, List.length_take]; rfl)) ?_; (with_reducible refine (rotate_Number.calls k t287 t288 false t290 _ A6.out).mono ?_); rintro e w' ⟨rfl, ⟨nd, rfl⟩⟩; refine ⟨_, rfl, ?_⟩))
          go_ret
          exact ⟨by first | rfl | (simp [errW_none, errW_some] <;> rfl) | (simp [*, errW_none, errW_some] <;> rfl), by repeat (first | (with_reducible first | exact HB.out | apply below_alloc | apply pw_below_drewN | apply below_drew1) | exact HB.out)⟩
      · rw [if_neg c11] at H
        have c11b0 : (t284 == (wrap64 (1 + (Int.tmod (wrap64 (a0)) 1000)))) = false := beq_eq_false_iff_ne.mpr c11
        have c11b1 : (t284 != (wrap64 (1 + (Int.tmod (wrap64 (a0)) 1000)))) = true := bne_iff_ne.mpr c11
        obtain rfl := Option.some.inj H
        go_enter Tryd.func7, Tryd.ntmps7
        go_wp2_with (first | ((with_reducible refine gate_callee (f := 22) rfl ?_); refine goesL_ (some 23) rfl rfl Tryd.func22 (by kernel_rfl) rfl #[.int .i64 (wrap64 (1 + (Int.tmod (wrap64 (a0)) 1000)))] rfl (by (try simp only [List.map_toArray, List.map_cons, List.map_nil]); first | done | rfl | (simp only [List.length_drop, List.length_take]; rfl)) ?_; (with_reducible refine (rotate_Name.calls (wrap64 (1 + (Int.tmod (wrap64 (a0)) 1000))) t283 _ ?side1 A3.out).mono ?_); (case side1 => exact TabOk.below HT.out (by repeat (first | (with_reducible first | exact HB.out | apply below_alloc | apply pw_below_drewN | apply below_drew1) | exact HB.out))); rintro e w34 ⟨rfl, hb⟩; refine ⟨_, rfl, ?_⟩; have n0_ := Aside0.mk (below_step (by repeat (first | (with_reducible first | exact HB.out | apply below_alloc | apply pw_below_drewN | apply below_drew1) | exact HB.out)) hb); clear HB; have HB := n0_; clear n0_; (try clear hb); (try clear hb2); (try clear hk); (try clear hi)) | ((with_reducible refine gate_callee (f := 24) rfl ?_); refine goesL_ (some 24) rfl rfl Tryd.func24 (by kernel_rfl) rfl #[.string t283] rfl (by (try simp only [List.map_toArray, List.map_cons, List.map_nil]); first | done | rfl | (simp only [List.length_drop, List.length_take]; rfl)) ?_; (with_reducible refine (rotate_Number.calls k t283 t284 true false _ A4.out).mono ?_); rintro e w' ⟨rfl, ⟨nd, rfl⟩⟩; refine ⟨_, rfl, ?_⟩) | ((with_reducible refine gate_callee (f := 23) rfl ?_); refine goesL_ (some 30) rfl rfl Tryd.func23 (by kernel_rfl) rfl #[.int .i64 (wrap64 (1 + (Int.tmod (wrap64 (a0)) 1000)))] rfl (by (try simp only [List.map_toArray, List.map_cons, List.map_nil]); first | done | rfl | (simp only [List.length_drop, List.length_take]; rfl)) ?_; (with_reducible refine (rotate_Packed.calls (wrap64 (1 + (Int.tmod (wrap64 (a0)) 1000))) t287 _ ?side1 A5.out).mono ?_); (case side1 => exact TabOk.below HT.out (by repeat (first | (with_reducible first | exact HB.out | apply below_alloc | apply pw_below_drewN | apply below_drew1) | exact HB.out))); rintro e w35 ⟨rfl, hb⟩; refine ⟨_, rfl, ?_⟩; have n0_ := Aside0.mk (below_step (by repeat (first | (with_reducible first | exact HB.out | apply below_alloc | apply pw_below_drewN | apply below_drew1) | exact HB.out)) hb); clear HB; have HB := n0_; clear n0_; (try clear hb); (try clear hb2); (try clear hk); (try clear hi)) | ((with_reducible refine gate_callee (f := 24) rfl ?_); refine goesL_ (some 31) rfl rfl Tryd.func24 (by kernel_rfl) rfl #[.string t287] rfl (by (try simp only [List.map_toArray, List.map_cons, List.map_nil]); first | done | rfl | (simp only [List.length_drop, List.length_take]; rfl)) ?_; (with_reducible refine (rotate_Number.calls k t287 t288 t289 t290 _ A6.out).mono ?_); rintro e w' ⟨rfl, ⟨nd, rfl⟩⟩; refine ⟨_, rfl, ?_⟩))
        go_ret
        exact ⟨by first | rfl | (simp [errW_none, errW_some] <;> rfl) | (simp [*, errW_none, errW_some] <;> rfl), by repeat (first | (with_reducible first | exact HB.out | apply below_alloc | apply pw_below_drewN | apply below_drew1) | exact HB.out)⟩
  · replace c7 := Bool.eq_false_iff.mpr c7
    subst c7
    have H1 : (some false) = some r := by rw [if_neg (show ¬ (false = true) by decide)] at H; exact H
    clear H
    have H := H1
    clear H1
    obtain rfl := Option.some.inj H
    go_enter Tryd.func7, Tryd.ntmps7
    go_wp2_with (first | ((with_reducible refine gate_callee (f := 22) rfl ?_); refine goesL_ (some 23) rfl rfl Tryd.func22 (by kernel_rfl) rfl #[.int .i64 (wrap64 (1 + (Int.tmod (wrap64 (a0)) 1000)))] rfl (by (try simp only [List.map_toArray, List.map_cons, List.map_nil]); first | done | rfl | (simp only [List.length_drop, List.length_take]; rfl)) ?_; (with_reducible refine (rotate_Name.calls (wrap64 (1 + (Int.tmod (wrap64 (a0)) 1000))) t283 _ ?side1 A3.out).mono ?_); (case side1 => exact TabOk.below HT.out (by repeat (first | (with_reducible first | exact HB.out | apply below_alloc | apply pw_below_drewN | apply below_drew1) | exact HB.out))); rintro e w36 ⟨rfl, hb⟩; refine ⟨_, rfl, ?_⟩; have n0_ := Aside0.mk (below_step (by repeat (first | (with_reducible first | exact HB.out | apply below_alloc | apply pw_below_drewN | apply below_drew1) | exact HB.out)) hb); clear HB; have HB := n0_; clear n0_; (try clear hb); (try clear hb2); (try clear hk); (try clear hi)) | ((with_reducible refine gate_callee (f := 24) rfl ?_); refine goesL_ (some 24) rfl rfl Tryd.func24 (by kernel_rfl) rfl #[.string t283] rfl (by (try simp only [List.map_toArray, List.map_cons, List.map_nil]); first | done | rfl | (simp only [List.length_drop, List.length_take]; rfl)) ?_; (with_reducible refine (rotate_Number.calls k t283 t284 false t286 _ A4.out).mono ?_); rintro e w' ⟨rfl, ⟨nd, rfl⟩⟩; refine ⟨_, rfl, ?_⟩) | ((with_reducible refine gate_callee (f := 23) rfl ?_); refine goesL_ (some 30) rfl rfl Tryd.func23 (by kernel_rfl) rfl #[.int .i64 (wrap64 (1 + (Int.tmod (wrap64 (a0)) 1000)))] rfl (by (try simp only [List.map_toArray, List.map_cons, List.map_nil]); first | done | rfl | (simp only [List.length_drop, List.length_take]; rfl)) ?_; (with_reducible refine (rotate_Packed.calls (wrap64 (1 + (Int.tmod (wrap64 (a0)) 1000))) t287 _ ?side1 A5.out).mono ?_); (case side1 => exact TabOk.below HT.out (by repeat (first | (with_reducible first | exact HB.out | apply below_alloc | apply pw_below_drewN | apply below_drew1) | exact HB.out))); rintro e w37 ⟨rfl, hb⟩; refine ⟨_, rfl, ?_⟩; have n0_ := Aside0.mk (below_step (by repeat (first | (with_reducible first | exact HB.out | apply below_alloc | apply pw_below_drewN | apply below_drew1) | exact HB.out)) hb); clear HB; have HB := n0_; clear n0_; (try clear hb); (try clear hb2); (try clear hk); (try clear hi)) | ((with_reducible refine gate_callee (f := 24) rfl ?_); refine goesL_ (some 31) rfl rfl Tryd.func24 (by kernel_rfl) rfl #[.string t287] rfl (by (try simp only [List.map_toArray, List.map_cons, List.map_nil]); first | done | rfl | (simp only [List.length_drop, List.length_take]; rfl)) ?_; (with_reducible refine (rotate_Number.calls k t287 t288 t289 t290 _ A6.out).mono ?_); rintro e w' ⟨rfl, ⟨nd, rfl⟩⟩; refine ⟨_, rfl, ?_⟩))
    go_ret
    exact ⟨by first | rfl | (simp [errW_none, errW_some] <;> rfl) | (simp [*, errW_none, errW_some] <;> rfl), by repeat (first | (with_reducible first | exact HB.out | apply below_alloc | apply pw_below_drewN | apply below_drew1) | exact HB.out)⟩

/-! ### kauditmill_Case_Text: function 28 -/
def kauditmill_Case_Text.f (s0_0 : List Int) (s0_1 : Int) : Option (ByteArray × Int) := (some (([(⟨#[]⟩ : ByteArray), (⟨#[97]⟩ : ByteArray), (⟨#[97, 110, 110]⟩ : ByteArray), (⟨#[47, 97, 47, 98]⟩ : ByteArray), (⟨#[110, 111]⟩ : ByteArray), (⟨#[121, 101, 115]⟩ : ByteArray), (⟨#[97, 32, 98]⟩ : ByteArray), (⟨#[120, 54, 102]⟩ : ByteArray), (⟨#[0]⟩ : ByteArray), (⟨#[109, 107, 100, 105, 114]⟩ : ByteArray)] : List ByteArray) : List ByteArray)).bind fun y294 => ((kauditmill_Case_Int.f s0_0 s0_1 (y294.length : Int)).bind fun bt297 => (if 0 ≤ bt297.1 then (if bt297.1 < (y294.length : Int) then (some (rdOf ByteArray.empty y294 bt297.1, bt297.2)) else (none)) else (none)))
set_option maxHeartbeats 8000000 in
set_option maxRecDepth 100000 in
theorem kauditmill_Case_Text.calls (g : Nat) (s0_0 : List Int) (s0_1 : Int) (r1 : ByteArray) (r2 : Int) (w0 w : World) (hI : IsS54 w0 w g s0_0 s0_1) (hB : Below w0.heap.size w0 w) (h : kauditmill_Case_Text.f s0_0 s0_1 = some (r1, r2)) :
    Calls Tryd.prog 28 #[.pointer (some ⟨g, 0, none⟩)] w fun e w' => e = .returned (.string r1) ∧ IsS54 w0 w' g s0_0 r2 ∧ Below w0.heap.size w0 w' ∧ KeepBut w w' g none := by
  have HI0 := Aside0.mk hI
  have HK := Aside0.mk (KeepBut.refl w g none)
  have HL := Aside0.mk hB.size
  clear hI
  have HW0 := Aside0.mk hB.size
  have HB := Aside0.mk hB
  clear hB
  have H : ((some (([(⟨#[]⟩ : ByteArray), (⟨#[97]⟩ : ByteArray), (⟨#[97, 110, 110]⟩ : ByteArray), (⟨#[47, 97, 47, 98]⟩ : ByteArray), (⟨#[110, 111]⟩ : ByteArray), (⟨#[121, 101, 115]⟩ : ByteArray), (⟨#[97, 32, 98]⟩ : ByteArray), (⟨#[120, 54, 102]⟩ : ByteArray), (⟨#[0]⟩ : ByteArray), (⟨#[109, 107, 100, 105, 114]⟩ : ByteArray)] : List ByteArray) : List ByteArray)).bind fun y294 => ((kauditmill_Case_Int.f s0_0 s0_1 (y294.length : Int)).bind fun bt297 => (if 0 ≤ bt297.1 then (if bt297.1 < (y294.length : Int) then (some (rdOf ByteArray.empty y294 bt297.1, bt297.2)) else (none)) else (none)))) = some (r1, r2) := h
  clear h
  obtain ⟨y294, hy294⟩ : ∃ y_ : List ByteArray, y_ = (([(⟨#[]⟩ : ByteArray), (⟨#[97]⟩ : ByteArray), (⟨#[97, 110, 110]⟩ : ByteArray), (⟨#[47, 97, 47, 98]⟩ : ByteArray), (⟨#[110, 111]⟩ : ByteArray), (⟨#[121, 101, 115]⟩ : ByteArray), (⟨#[97, 32, 98]⟩ : ByteArray), (⟨#[120, 54, 102]⟩ : ByteArray), (⟨#[0]⟩ : ByteArray), (⟨#[109, 107, 100, 105, 114]⟩ : ByteArray)] : List ByteArray)) := ⟨_, rfl⟩
  replace H : ((kauditmill_Case_Int.f s0_0 s0_1 (y294.length : Int)).bind fun bt297 => (if 0 ≤ bt297.1 then (if bt297.1 < (y294.length : Int) then (some (rdOf ByteArray.empty y294 bt297.1, bt297.2)) else (none)) else (none))) = some (r1, r2) := by first | (rw [hy294]; with_reducible exact H) | (have H2_ := (Option.bind_some _ _).symm.trans H; rw [hy294]; with_reducible exact H2_) | (have H2_ := (Option.bind_some _ _).symm.trans H; with_reducible exact H2_) | with_reducible exact H | (rw [hy294]; exact H) | exact H
  have Ny294 := Aside0.mk hy294
  clear hy294
  replace H := Option.bind_eq_some_iff.mp H
  obtain ⟨⟨t297, t298⟩, A20, H⟩ := H
  replace H : (if 0 ≤ t297 then (if t297 < (y294.length : Int) then (some (rdOf ByteArray.empty y294 t297, t298)) else (none)) else (none)) = some (r1, r2) := H
  have A2 := Aside0.mk A20
  clear A20
  by_cases c3 : 0 ≤ t297
  · rw [if_pos c3] at H
    have c3b0 : decide (0 ≤ t297) = true := decide_eq_true c3
    clear c3
    by_cases c4 : t297 < (y294.length : Int)
    · rw [if_pos c4] at H
      have c4b0 : decide (t297 < (y294.length : Int)) = true := decide_eq_true c4
      clear c4
      simp only [Option.some.injEq, Prod.mk.injEq] at H
      obtain ⟨rfl, rfl⟩ := H
      go_enter Tryd.func28, Tryd.ntmps28
      go_wp2_with (first | ((with_reducible refine gate_dst (N := 4) rfl ?_); refine Kd.R_lit Kd.string _ 9 ?hg (N := 4) ?hd (xs := ([(⟨#[]⟩ : ByteArray), (⟨#[97]⟩ : ByteArray), (⟨#[97, 110, 110]⟩ : ByteArray), (⟨#[47, 97, 47, 98]⟩ : ByteArray), (⟨#[110, 111]⟩ : ByteArray), (⟨#[121, 101, 115]⟩ : ByteArray), (⟨#[97, 32, 98]⟩ : ByteArray), (⟨#[120, 54, 102]⟩ : ByteArray), (⟨#[0]⟩ : ByteArray), (⟨#[109, 107, 100, 105, 114]⟩ : ByteArray)] : List ByteArray)) (inner := [.string (⟨#[]⟩ : ByteArray), .string (⟨#[97]⟩ : ByteArray), .string (⟨#[97, 110, 110]⟩ : ByteArray), .string (⟨#[47, 97, 47, 98]⟩ : ByteArray), .string (⟨#[110, 111]⟩ : ByteArray), .string (⟨#[121, 101, 115]⟩ : ByteArray), .string (⟨#[97, 32, 98]⟩ : ByteArray), .string (⟨#[120, 54, 102]⟩ : ByteArray), .string (⟨#[0]⟩ : ByteArray), .string (⟨#[109, 107, 100, 105, 114]⟩ : ByteArray)]) (ok := fun _ => True) (okp := fun _ => True) ?hr ?hp (fun _ hk => hk) trivial (Below.refl _ _) (Nat.le_refl _) (by simp) ?_; (case hd => rfl); (case hg => rfl); (case hr => first | (go_simp; done) | (go_simp; rfl)); (case hp => exact (Reps.one (show Kd.M Kd.string _ _ _ (⟨#[]⟩ : ByteArray) [.string (⟨#[]⟩ : ByteArray)] from rfl) (Reps.one (show Kd.M Kd.string _ _ _ (⟨#[97]⟩ : ByteArray) [.string (⟨#[97]⟩ : ByteArray)] from rfl) (Reps.one (show Kd.M Kd.string _ _ _ (⟨#[97, 110, 110]⟩ : ByteArray) [.string (⟨#[97, 110, 110]⟩ : ByteArray)] from rfl) (Reps.one (show Kd.M Kd.string _ _ _ (⟨#[47, 97, 47, 98]⟩ : ByteArray) [.string (⟨#[47, 97, 47, 98]⟩ : ByteArray)] from rfl) (Reps.one (show Kd.M Kd.string _ _ _ (⟨#[110, 111]⟩ : ByteArray) [.string (⟨#[110, 111]⟩ : ByteArray)] from rfl) (Reps.one (show Kd.M Kd.string _ _ _ (⟨#[121, 101, 115]⟩ : ByteArray) [.string (⟨#[121, 101, 115]⟩ : ByteArray)] from rfl) (Reps.one (show Kd.M Kd.string _ _ _ (⟨#[97, 32, 98]⟩ : ByteArray) [.string (⟨#[97, 32, 98]⟩ : ByteArray)] from rfl) (Reps.one (show Kd.M Kd.string _ _ _ (⟨#[120, 54, 102]⟩ : ByteArray) [.string (⟨#[120, 54, 102]⟩ : ByteArray)] from rfl) (Reps.one (show Kd.M Kd.string _ _ _ (⟨#[0]⟩ : ByteArray) [.string (⟨#[0]⟩ : ByteArray)] from rfl) (Reps.one (show Kd.M Kd.string _ _ _ (⟨#[109, 107, 100, 105, 114]⟩ : ByteArray) [.string (⟨#[109, 107, 100, 105, 114]⟩ : ByteArray)] from rfl) (Reps.none _ _)))))))))))); intro v295 w5 ho6 hb hg_ hnew_; clear hg_ hnew_; (first | rw [← Ny294.out] at ho6 | (simp only [Int.reduceToNat] at ho6; rw [← Ny294.out] at ho6)); have n0_ := Aside0.mk (Kd.R_lower ho6 (keep_size (w := w) (g := g) (row := none) (by repeat (first | (with_reducible first | exact HK.out | apply KeepBut.set_ | apply keep_drewN | apply keep_drew | apply keep_alloc) | exact HK.out)))); have n1_ := Aside0.mk (IsS54.below (by repeat (first | (with_reducible first | exact HI0.out | apply IsS54.alloc | apply IsS54.drewN | apply IsS54.drew | apply IsS54.set_1) | exact HI0.out)) hb); have n2_ := Aside0.mk (KeepBut.trans (by repeat (first | (with_reducible first | exact HK.out | apply KeepBut.set_ | apply keep_drewN | apply keep_drew | apply keep_alloc) | exact HK.out)) (KeepBut.of_below hb g none) (.inl rfl)); have n3_ := Aside0.mk (below_step (by repeat (first | (with_reducible first | exact HB.out | apply below_alloc | apply pw_below_drewN | apply below_drew1 | refine below_set ?_ (IsS54.ge HI0.out)) | exact HB.out)) hb); clear HI0; clear HK; clear HB; have HO296 := n0_; have HI0 := n1_; have HK := n2_; have HB := n3_; clear n0_ n1_ n2_ n3_; clear hb ho6; obtain ⟨Ao7, co7, eo7⟩ := Kd.R_slice HO296.out; subst eo7) | ((with_reducible refine gate_callee (f := 17) rfl ?_); refine goesL_ (some 9) rfl rfl Tryd.func17 (by kernel_rfl) rfl #[.pointer (some ⟨g, 0, none⟩), .int .i64 (y294.length : Int)] rfl (by (try simp only [List.map_toArray, List.map_cons, List.map_nil]); first | done | rfl | (simp only [List.length_drop, List.length_take]; rfl)) ?_; (with_reducible refine (kauditmill_Case_Int.calls g s0_0 s0_1 (y294.length : Int) t297 t298 w0 _ ?side1 ?side2 A2.out).mono ?_); (case side1 => repeat (first | (with_reducible first | exact HI0.out | apply IsS54.alloc | apply IsS54.drewN | apply IsS54.drew | apply IsS54.set_1) | exact HI0.out)); (case side2 => repeat (first | (with_reducible first | exact HB.out | apply below_alloc | apply pw_below_drewN | apply below_drew1 | refine below_set ?_ (IsS54.ge HI0.out)) | exact HB.out)); rintro e w8 ⟨rfl, hi, hb, hk⟩; refine ⟨_, rfl, ?_⟩; have n0_ := Aside0.mk (Kd.R_mono (Kd.R_keep (IsS54.apart (show IsS54 w0 _ g s0_0 s0_1 from by repeat (first | (with_reducible first | exact HI0.out | apply IsS54.alloc | apply IsS54.drewN | apply IsS54.drew | apply IsS54.set_1) | exact HI0.out)) (by (with_reducible repeat (first | apply Kd.R_alloc | apply Kd.R_drewN | apply Kd.R_drew)); exact HO296.out) (by decide)) hk (fun _ h => h.2)) (fun _ h => h.1)); have n1_ := Aside0.mk (KeepBut.trans (by repeat (first | (with_reducible first | exact HK.out | apply KeepBut.set_ | apply keep_drewN | apply keep_drew | apply keep_alloc) | exact HK.out)) hk (.inl rfl)); have n2_ := Aside0.mk (hb); have n3_ := Aside0.mk (hi); clear HO296; clear HK; clear HB; clear HI0; have HO296 := n0_; have HK := n1_; have HB := n2_; have HI0 := n3_; clear n0_ n1_ n2_ n3_; (try clear hb); (try clear hb2); (try clear hk); (try clear hi); have p299 : 0 ≤ (t297 : Int) := of_decide_eq_true (by first | (with_reducible assumption) | assumption); have q299 : t297 < (y294.length : Int) := of_decide_eq_true (by first | (with_reducible assumption) | assumption); obtain ⟨ad299, e299, hx299_0⟩ := Kd.at_string (Kd.R_reads' HO296.out).2.2 t297 p299 q299; cases e299; replace p299 := eq_true p299; replace q299 := eq_true q299))
      go_ret
      exact ⟨by first | rfl | (simp [errW_none, errW_some] <;> rfl) | (simp [*, errW_none, errW_some] <;> rfl), by repeat (first | (with_reducible first | exact HI0.out | apply IsS54.alloc | apply IsS54.drewN | apply IsS54.drew | apply IsS54.set_1) | exact HI0.out), by repeat (first | (with_reducible first | exact HB.out | apply below_alloc | apply pw_below_drewN | apply below_drew1 | refine below_set ?_ (IsS54.ge HI0.out)) | exact HB.out), by repeat (first | (with_reducible first | exact HK.out | apply KeepBut.set_ | apply keep_drewN | apply keep_drew | apply keep_alloc) | exact HK.out)⟩
    · rw [if_neg c4] at H
      exact absurd H (by simp)
  · rw [if_neg c3] at H
    exact absurd H (by simp)

/-! ### rotate_Numbers: function 29 -/
def rotate_Numbers.l0 : Nat → List Int → List ByteArray → Int → Int → Option (List Int)
  | 0, _, _, _, _ => none
  | k + 1, x3, x9, x10, x11 => if x11 < x10 then (if 0 ≤ x11 then (if x11 < (x9.length : Int) then ((rotate_Number.f k (rdOf ByteArray.empty x9 x11)).bind fun bt301 => (if bt301.2.1 = true then (if x3.length < 17592186044416 then (rotate_Numbers.l0 k (x3 ++ [bt301.1]) x9 x10 (wrap64 (x11 + 1))) else (none)) else (rotate_Numbers.l0 k x3 x9 x10 (wrap64 (x11 + 1))))) else (none)) else (none)) else ((rotate_unique_int.f x3).bind fun t307 => (some t307))
def rotate_Numbers.f (k : Nat) (l0 : List ByteArray) : Option (List Int) := rotate_Numbers.l0 k ([] : List Int) l0 (l0.length : Int) 0
theorem rotate_Numbers.mono_l : ∀ k, (∀ y0 y1 y2 y3, LeO (rotate_Numbers.l0 k y0 y1 y2 y3) (rotate_Numbers.l0 (k + 1) y0 y1 y2 y3))
  | 0 => fun _ _ _ _ r h => by simp [rotate_Numbers.l0] at h
  | k + 1 => by
    have ih0 := rotate_Numbers.mono_l k
    · intro y0 y1 y2 y3
      unfold rotate_Numbers.l0
      repeat' first
      | (with_reducible exact ih0 _ _ _ _)
      | (with_reducible exact rotate_Number.mono _ _)
      | (with_reducible exact LeO.refl _)
      | (with_reducible exact LeO.none _)
      | (with_reducible refine LeO.ite ?_ ?_)
      | (with_reducible refine LeO.bind ?_ (fun _ => ?_))
      | exact ih0 _ _ _ _
      | exact rotate_Number.mono _ _
      | exact LeO.none _
      | refine LeO.ite ?_ ?_
      | refine LeO.bind ?_ (fun _ => ?_)
theorem rotate_Numbers.mono : ∀ a0 k, LeO (rotate_Numbers.f k a0) (rotate_Numbers.f (k + 1) a0) := by
  intro a0 k
  have ih0 := rotate_Numbers.mono_l k
  unfold rotate_Numbers.f
  repeat' first
      | (with_reducible exact ih0 _ _ _ _)
      | (with_reducible exact rotate_Number.mono _ _)
      | (with_reducible exact LeO.refl _)
      | (with_reducible exact LeO.none _)
      | (with_reducible refine LeO.ite ?_ ?_)
      | (with_reducible refine LeO.bind ?_ (fun _ => ?_))
      | exact ih0 _ _ _ _
      | exact rotate_Number.mono _ _
      | exact LeO.none _
      | refine LeO.ite ?_ ?_
      | refine LeO.bind ?_ (fun _ => ?_)
set_option maxHeartbeats 8000000 in
set_option maxRecDepth 100000 in
theorem rotate_Numbers.calls (k : Nat) (A0 : Option Addr) (c0 : Nat) (l0 : List ByteArray) (r : List Int) (w : World) (hr0 : Kd.C Kd.string w A0 l0.length l0) (hc0 : l0.length ≤ c0) (h : rotate_Numbers.f k l0 = some r) :
    Calls Tryd.prog 29 #[.slice A0 l0.length c0] w fun e w' => ∃ v0_ : Value, e = .returned (v0_) ∧ Kd.R (Kd.int .i64) 3 w' w.heap.size (fun _ => True) v0_ r ∧ Below w.heap.size w w' := by
  have HR0 := Aside0.mk hr0
  have HC0 := Aside0.mk hc0
  clear hr0 hc0
  have HB := Aside0.mk (Below.refl w.heap.size w)
  have H : (rotate_Numbers.l0 k ([] : List Int) l0 (l0.length : Int) 0) = some r := h
  clear h
  have H' := Aside0.mk H
  clear H
  go_enter Tryd.func29, Tryd.ntmps29
  go_wp2
  go_loopg [3, 11] k (fun kq v3 v11 w' => ∃ (x3_1 : List Int) (x11_1 : Int), v11 = .int .i64 x11_1 ∧ Aside0 (rotate_Numbers.l0 kq x3_1 l0 (l0.length : Int) x11_1 = some r) ∧ Aside0 (kq ≤ k) ∧ Aside0 (Kd.R (Kd.int .i64) 3 w' w.heap.size (fun _ => True) v3 x3_1) ∧ Aside0 (Below w.heap.size w w'))
  case atStart => exact ⟨(([] : List Int)), (0), (by first | rfl | (simp; done) | (simp [*]; done)), H', ⟨Nat.le_refl _⟩, ⟨by first | exact Kd.R_nil _ _ _ _ _ | exact Kd.N_nil _ _ _ _ _ | exact Kd.V_nil _ _ _ _ _ | exact Kd.Q_nil _ _ _ _ _ | exact Kd.S_nil _ _ _ _ _⟩, ⟨by repeat (first | (with_reducible first | exact HB.out | apply below_alloc | apply pw_below_drewN | apply below_drew1) | exact HB.out)⟩⟩
  case round =>
    clear H'
    obtain ⟨x3_1, x11_1, rfl, HA, HK1, HO_3, HB⟩ := hrel
    cases gk with
    | zero => exact absurd HA.out (by simp [rotate_Numbers.l0])
    | succ k1 =>
      have H := HA.out
      clear HA
      simp only [rotate_Numbers.l0] at H
      by_cases c2 : x11_1 < (l0.length : Int)
      · rw [if_pos c2] at H
        have c2b0 : decide (x11_1 < (l0.length : Int)) = true := decide_eq_true c2
        clear c2
        by_cases c3 : 0 ≤ x11_1
        · rw [if_pos c3] at H
          have c3b0 : decide (0 ≤ x11_1) = true := decide_eq_true c3
          clear c3
          by_cases c4 : x11_1 < (l0.length : Int)
          · rw [if_pos c4] at H
            have c4b0 : decide (x11_1 < (l0.length : Int)) = true := decide_eq_true c4
            clear c4
            replace H := Option.bind_eq_some_iff.mp H
            obtain ⟨⟨t301, t302, t303⟩, A50, H⟩ := H
            replace H : (if t302 = true then (if x3_1.length < 17592186044416 then (rotate_Numbers.l0 k1 (x3_1 ++ [t301]) l0 (l0.length : Int) (wrap64 (x11_1 + 1))) else (none)) else (rotate_Numbers.l0 k1 x3_1 l0 (l0.length : Int) (wrap64 (x11_1 + 1)))) = some r := H
            have A5 := Aside0.mk A50
            clear A50
            by_cases c6 : t302 = true
            · subst c6
              have H1 : (if x3_1.length < 17592186044416 then (rotate_Numbers.l0 k1 (x3_1 ++ [t301]) l0 (l0.length : Int) (wrap64 (x11_1 + 1))) else (none)) = some r := by rw [if_pos rfl] at H; exact H
              clear H
              have H := H1
              clear H1
              by_cases c7 : x3_1.length < 17592186044416
              · rw [if_pos c7] at H
                have LMc7 := Aside0.mk c7
                clear c7
                obtain ⟨y304, hy304⟩ : ∃ y_ : List Int, y_ = (x3_1 ++ [t301]) := ⟨_, rfl⟩
                replace H : (rotate_Numbers.l0 k1 y304 l0 (l0.length : Int) (wrap64 (x11_1 + 1))) = some r := by first | (rw [hy304]; with_reducible exact H) | (have H2_ := (Option.bind_some _ _).symm.trans H; rw [hy304]; with_reducible exact H2_) | (have H2_ := (Option.bind_some _ _).symm.trans H; with_reducible exact H2_) | with_reducible exact H | (rw [hy304]; exact H) | exact H
                have Ny304 := Aside0.mk hy304
                clear hy304
                have H' := Aside0.mk H
                clear H
                have p300 : 0 ≤ (x11_1 : Int) := of_decide_eq_true (by first | (with_reducible assumption) | assumption)
                have q300 : x11_1 < (l0.length : Int) := of_decide_eq_true (by first | (with_reducible assumption) | assumption)
                obtain ⟨ad300, e300, hx300_0⟩ := Kd.at_string HR0.out x11_1 p300 q300
                cases e300
                replace hx300_0 := (HB.out.cell (World.block_lt_of_cell? w _ hx300_0)).trans hx300_0
                replace p300 := eq_true p300
                replace q300 := eq_true q300
                go_wp2_with (first | ((with_reducible refine gate_callee (f := 24) rfl ?_); refine goesL_ (some 17) rfl rfl Tryd.func24 (by kernel_rfl) rfl #[.string (rdOf ByteArray.empty l0 x11_1)] rfl (by (try simp only [List.map_toArray, List.map_cons, List.map_nil]); first | done | rfl | (simp only [List.length_drop, List.length_take]; rfl)) ?_; (with_reducible refine (rotate_Number.calls k1 (rdOf ByteArray.empty l0 x11_1) t301 true t303 _ A5.out).mono ?_); rintro e w' ⟨rfl, ⟨nd, rfl⟩⟩; refine ⟨_, rfl, ?_⟩) | ((with_reducible refine gate_builtin (b := .append) (xs := #[.tmp 22, .tmp 24]) rfl ?_); at_builtin; refine Kd.R_append (Kd.int .i64) (w0 := w) w.heap.size rfl (.tmp 22) (.tmp 24) 36 3 (.int .i64 0) 8 rfl Tryd.underlying36 info3 rfl (by decide) (by omega) u3 x3_1 t301 [.int .i64 t301] (fun _ => True) (fun _ => False) rfl rfl ?aP (fun _ hk => hk.elim) ?aF ?aO ?aB ?aS ?aL ?_; (case aP => exact rfl); (case aB => exact (by repeat (first | (with_reducible first | exact HB.out | apply below_alloc | apply pw_below_drewN | apply below_drew1) | exact HB.out))); (case aF => exact (fun _ _ => trivial)); (case aO => exact (by (with_reducible repeat (first | apply Kd.R_alloc | apply Kd.R_drewN | apply Kd.R_drew)); exact HO_3.out)); (case aS => exact (below_size (by repeat (first | (with_reducible first | exact HB.out | apply below_alloc | apply pw_below_drewN | apply below_drew1) | exact HB.out)))); (case aL => have := LMc7.out; omega); intro v305 w8 ho hb hg hat; rw [← Ny304.out] at ho; have n0_ := Aside0.mk (hb); have n1_ := Aside0.mk (ho); clear HB; clear HO_3; have HB := n0_; have HO306 := n1_; clear n0_ n1_; clear ho hb hg hat))
                go_roundg k1
                case measure => have := HK1.out; omega
                case rel => exact ⟨(y304), (wrap64 (x11_1 + 1)), (by first | rfl | (simp; done) | (simp [*]; done)), H', ⟨by have := HK1.out; omega⟩, ⟨by (with_reducible repeat (first | apply Kd.R_alloc | apply Kd.R_drewN | apply Kd.R_drew)); exact HO306.out⟩, ⟨by repeat (first | (with_reducible first | exact HB.out | apply below_alloc | apply pw_below_drewN | apply below_drew1) | exact HB.out)⟩⟩
              · rw [if_neg c7] at H
                exact absurd H (by simp)
            · replace c6 := Bool.eq_false_iff.mpr c6
              subst c6
              have H1 : (rotate_Numbers.l0 k1 x3_1 l0 (l0.length : Int) (wrap64 (x11_1 + 1))) = some r := by rw [if_neg (show ¬ (false = true) by decide)] at H; exact H
              clear H
              have H := H1
              clear H1
              have H' := Aside0.mk H
              clear H
              have p300 : 0 ≤ (x11_1 : Int) := of_decide_eq_true (by first | (with_reducible assumption) | assumption)
              have q300 : x11_1 < (l0.length : Int) := of_decide_eq_true (by first | (with_reducible assumption) | assumption)
              obtain ⟨ad300, e300, hx300_0⟩ := Kd.at_string HR0.out x11_1 p300 q300
              cases e300
              replace hx300_0 := (HB.out.cell (World.block_lt_of_cell? w _ hx300_0)).trans hx300_0
              replace p300 := eq_true p300
              replace q300 := eq_true q300
              go_wp2_with (first | ((with_reducible refine gate_callee (f := 24) rfl ?_); refine goesL_ (some 17) rfl rfl Tryd.func24 (by kernel_rfl) rfl #[.string (rdOf ByteArray.empty l0 x11_1)] rfl (by (try simp only [List.map_toArray, List.map_cons, List.map_nil]); first | done | rfl | (simp only [List.length_drop, List.length_take]; rfl)) ?_; (with_reducible refine (rotate_Number.calls k1 (rdOf ByteArray.empty l0 x11_1) t301 false t303 _ A5.out).mono ?_); rintro e w' ⟨rfl, ⟨nd, rfl⟩⟩; refine ⟨_, rfl, ?_⟩))
              go_roundg k1
              case measure => have := HK1.out; omega
              case rel => exact ⟨(x3_1), (wrap64 (x11_1 + 1)), (by first | rfl | (simp; done) | (simp [*]; done)), H', ⟨by have := HK1.out; omega⟩, ⟨by (with_reducible repeat (first | apply Kd.R_alloc | apply Kd.R_drewN | apply Kd.R_drew)); exact HO_3.out⟩, ⟨by repeat (first | (with_reducible first | exact HB.out | apply below_alloc | apply pw_below_drewN | apply below_drew1) | exact HB.out)⟩⟩
          · rw [if_neg c4] at H
            exact absurd H (by simp)
        · rw [if_neg c3] at H
          exact absurd H (by simp)
      · rw [if_neg c2] at H
        have c2b0 : decide (x11_1 < (l0.length : Int)) = false := decide_eq_false c2
        clear c2
        replace H := Option.bind_eq_some_iff.mp H
        obtain ⟨t307, A90, H⟩ := H
        replace H : (some t307) = some r := H
        have A9 := Aside0.mk A90
        clear A90
        obtain rfl := Option.some.inj H
        obtain ⟨Ao10, co10, eo10⟩ := Kd.R_slice HO_3.out
        subst eo10
        go_wp2_with (first | ((with_reducible refine gate_callee (f := 32) rfl ?_); refine goesL_ (some 28) rfl rfl Tryd.func32 (by kernel_rfl) rfl #[.slice Ao10 x3_1.length co10] rfl (by (try simp only [List.map_toArray, List.map_cons, List.map_nil]); first | done | rfl | (simp only [List.length_drop, List.length_take]; rfl)) ?_; (with_reducible refine (rotate_unique_int.calls _ _ x3_1 t307 _ ?side1 ?side2 A9.out).mono ?_); (case side1 => repeat (first | exact (Kd.R_reads' HO_3.out).2.2 | (with_reducible refine Kd.C_alloc ?_ _) | (with_reducible refine Kd.C_drewN ?_ _) | (with_reducible refine Kd.C_drew ?_))); (case side2 => exact (Kd.R_reads' HO_3.out).2.1); rintro e w11 ⟨v308, rfl, ho0, hb⟩; refine ⟨_, rfl, ?_⟩; have n0_ := Aside0.mk (Kd.R_elder' (by (with_reducible repeat (first | apply Kd.R_alloc | apply Kd.R_drewN | apply Kd.R_drew)); exact HO_3.out) (Kd.R_base ho0) hb); have n1_ := Aside0.mk (Kd.R_lower (Kd.R_new' ho0 (Kd.R_lt (by (with_reducible repeat (first | apply Kd.R_alloc | apply Kd.R_drewN | apply Kd.R_drew)); exact HO_3.out))) (below_size (by repeat (first | (with_reducible first | exact HB.out | apply below_alloc | apply pw_below_drewN | apply below_drew1) | exact HB.out)))); have n2_ := Aside0.mk (below_step (by repeat (first | (with_reducible first | exact HB.out | apply below_alloc | apply pw_below_drewN | apply below_drew1) | exact HB.out)) hb); clear HO_3; clear HB; have HO_3 := n0_; have HO309 := n1_; have HB := n2_; clear n0_ n1_ n2_; (try clear hb); (try clear hb2); (try clear hk); (try clear hi); (try clear ho0)))
        go_ret
        exact ⟨_, by first | rfl | (simp [errW_none, errW_some] <;> rfl) | (simp [*, errW_none, errW_some] <;> rfl), by (with_reducible repeat (first | apply Kd.R_alloc | apply Kd.R_drewN | apply Kd.R_drew)); exact Kd.R_mono HO309.out (fun _ hk => trivial), by repeat (first | (with_reducible first | exact HB.out | apply below_alloc | apply pw_below_drewN | apply below_drew1) | exact HB.out)⟩

/-! ### kauditref26_Numbers: function 30 -/
def kauditref26_Numbers.l0 : Nat → List Int → List ByteArray → Int → Int → Option (List Int)
  | 0, _, _, _, _ => none
  | k + 1, x3, x9, x10, x11 => if x11 < x10 then (if 0 ≤ x11 then (if x11 < (x9.length : Int) then ((kauditref26_Number.f k (rdOf ByteArray.empty x9 x11)).bind fun bt311 => (if bt311.2.1 = true then ((kauditref26_Add.f k x3 bt311.1).bind fun t314 => (kauditref26_Numbers.l0 k t314 x9 x10 (wrap64 (x11 + 1)))) else (kauditref26_Numbers.l0 k x3 x9 x10 (wrap64 (x11 + 1))))) else (none)) else (none)) else (some x3)
def kauditref26_Numbers.f (k : Nat) (l0 : List ByteArray) : Option (List Int) := kauditref26_Numbers.l0 k ([] : List Int) l0 (l0.length : Int) 0
theorem kauditref26_Numbers.mono_l : ∀ k, (∀ y0 y1 y2 y3, LeO (kauditref26_Numbers.l0 k y0 y1 y2 y3) (kauditref26_Numbers.l0 (k + 1) y0 y1 y2 y3))
  | 0 => fun _ _ _ _ r h => by simp [kauditref26_Numbers.l0] at h
  | k + 1 => by
    have ih0 := kauditref26_Numbers.mono_l k
    · intro y0 y1 y2 y3
      unfold kauditref26_Numbers.l0
      repeat' first
      | (with_reducible exact ih0 _ _ _ _)
      | (with_reducible exact kauditref26_Add.mono _ _ _)
      | (with_reducible exact kauditref26_Number.mono _ _)
      | (with_reducible exact LeO.refl _)
      | (with_reducible exact LeO.none _)
      | (with_reducible refine LeO.ite ?_ ?_)
      | (with_reducible refine LeO.bind ?_ (fun _ => ?_))
      | exact ih0 _ _ _ _
      | exact kauditref26_Add.mono _ _ _
      | exact kauditref26_Number.mono _ _
      | exact LeO.none _
      | refine LeO.ite ?_ ?_
      | refine LeO.bind ?_ (fun _ => ?_)
theorem kauditref26_Numbers.mono : ∀ a0 k, LeO (kauditref26_Numbers.f k a0) (kauditref26_Numbers.f (k + 1) a0) := by
  intro a0 k
  have ih0 := kauditref26_Numbers.mono_l k
  unfold kauditref26_Numbers.f
  repeat' first
      | (with_reducible exact ih0 _ _ _ _)
      | (with_reducible exact kauditref26_Add.mono _ _ _)
      | (with_reducible exact kauditref26_Number.mono _ _)
      | (with_reducible exact LeO.refl _)
      | (with_reducible exact LeO.none _)
      | (with_reducible refine LeO.ite ?_ ?_)
      | (with_reducible refine LeO.bind ?_ (fun _ => ?_))
      | exact ih0 _ _ _ _
      | exact kauditref26_Add.mono _ _ _
      | exact kauditref26_Number.mono _ _
      | exact LeO.none _
      | refine LeO.ite ?_ ?_
      | refine LeO.bind ?_ (fun _ => ?_)
set_option maxHeartbeats 8000000 in
set_option maxRecDepth 100000 in
theorem kauditref26_Numbers.calls (k : Nat) (A0 : Option Addr) (c0 : Nat) (l0 : List ByteArray) (r : List Int) (w : World) (hr0 : Kd.C Kd.string w A0 l0.length l0) (hc0 : l0.length ≤ c0) (h : kauditref26_Numbers.f k l0 = some r) :
    Calls Tryd.prog 30 #[.slice A0 l0.length c0] w fun e w' => ∃ v0_ : Value, e = .returned (v0_) ∧ Kd.R (Kd.int .i64) 3 w' w.heap.size (fun _ => True) v0_ r ∧ Below w.heap.size w w' := by
  have HR0 := Aside0.mk hr0
  have HC0 := Aside0.mk hc0
  clear hr0 hc0
  have HB := Aside0.mk (Below.refl w.heap.size w)
  have H : (kauditref26_Numbers.l0 k ([] : List Int) l0 (l0.length : Int) 0) = some r := h
  clear h
  have H' := Aside0.mk H
  clear H
  go_enter Tryd.func30, Tryd.ntmps30
  go_wp2
  go_loopg [3, 11] k (fun kq v3 v11 w' => ∃ (x3_1 : List Int) (x11_1 : Int), v11 = .int .i64 x11_1 ∧ Aside0 (kauditref26_Numbers.l0 kq x3_1 l0 (l0.length : Int) x11_1 = some r) ∧ Aside0 (kq ≤ k) ∧ Aside0 (Kd.R (Kd.int .i64) 3 w' w.heap.size (fun _ => True) v3 x3_1) ∧ Aside0 (Below w.heap.size w w'))
  case atStart => exact ⟨(([] : List Int)), (0), (by first | rfl | (simp; done) | (simp [*]; done)), H', ⟨Nat.le_refl _⟩, ⟨by first | exact Kd.R_nil _ _ _ _ _ | exact Kd.N_nil _ _ _ _ _ | exact Kd.V_nil _ _ _ _ _ | exact Kd.Q_nil _ _ _ _ _ | exact Kd.S_nil _ _ _ _ _⟩, ⟨by repeat (first | (with_reducible first | exact HB.out | apply below_alloc | apply pw_below_drewN | apply below_drew1) | exact HB.out)⟩⟩
  case round =>
    clear H'
    obtain ⟨x3_1, x11_1, rfl, HA, HK1, HO_3, HB⟩ := hrel
    cases gk with
    | zero => exact absurd HA.out (by simp [kauditref26_Numbers.l0])
    | succ k1 =>
      have H := HA.out
      clear HA
      simp only [kauditref26_Numbers.l0] at H
      by_cases c2 : x11_1 < (l0.length : Int)
      · rw [if_pos c2] at H
        have c2b0 : decide (x11_1 < (l0.length : Int)) = true := decide_eq_true c2
        clear c2
        by_cases c3 : 0 ≤ x11_1
        · rw [if_pos c3] at H
          have c3b0 : decide (0 ≤ x11_1) = true := decide_eq_true c3
          clear c3
          by_cases c4 : x11_1 < (l0.length : Int)
          · rw [if_pos c4] at H
            have c4b0 : decide (x11_1 < (l0.length : Int)) = true := decide_eq_true c4
            clear c4
            replace H := Option.bind_eq_some_iff.mp H
            obtain ⟨⟨t311, t312, t313⟩, A50, H⟩ := H
            replace H : (if t312 = true then ((kauditref26_Add.f k1 x3_1 t311).bind fun t314 => (kauditref26_Numbers.l0 k1 t314 l0 (l0.length : Int) (wrap64 (x11_1 + 1)))) else (kauditref26_Numbers.l0 k1 x3_1 l0 (l0.length : Int) (wrap64 (x11_1 + 1)))) = some r := H
            have A5 := Aside0.mk A50
            clear A50
            by_cases c6 : t312 = true
            · subst c6
              have H1 : ((kauditref26_Add.f k1 x3_1 t311).bind fun t314 => (kauditref26_Numbers.l0 k1 t314 l0 (l0.length : Int) (wrap64 (x11_1 + 1)))) = some r := by rw [if_pos rfl] at H; exact H
              clear H
              have H := H1
              clear H1
              replace H := Option.bind_eq_some_iff.mp H
              obtain ⟨t314, A70, H⟩ := H
              replace H : (kauditref26_Numbers.l0 k1 t314 l0 (l0.length : Int) (wrap64 (x11_1 + 1))) = some r := H
              have A7 := Aside0.mk A70
              clear A70
              have H' := Aside0.mk H
              clear H
              have p310 : 0 ≤ (x11_1 : Int) := of_decide_eq_true (by first | (with_reducible assumption) | assumption)
              have q310 : x11_1 < (l0.length : Int) := of_decide_eq_true (by first | (with_reducible assumption) | assumption)
              obtain ⟨ad310, e310, hx310_0⟩ := Kd.at_string HR0.out x11_1 p310 q310
              cases e310
              replace hx310_0 := (HB.out.cell (World.block_lt_of_cell? w _ hx310_0)).trans hx310_0
              replace p310 := eq_true p310
              replace q310 := eq_true q310
              go_wp2_with (first | ((with_reducible refine gate_callee (f := 25) rfl ?_); refine goesL_ (some 17) rfl rfl Tryd.func25 (by kernel_rfl) rfl #[.string (rdOf ByteArray.empty l0 x11_1)] rfl (by (try simp only [List.map_toArray, List.map_cons, List.map_nil]); first | done | rfl | (simp only [List.length_drop, List.length_take]; rfl)) ?_; (with_reducible refine (kauditref26_Number.calls k1 (rdOf ByteArray.empty l0 x11_1) t311 true t313 _ A5.out).mono ?_); rintro e w8 ⟨rfl, hb⟩; refine ⟨_, rfl, ?_⟩; have n0_ := Aside0.mk (Kd.R_below (by (with_reducible repeat (first | apply Kd.R_alloc | apply Kd.R_drewN | apply Kd.R_drew)); exact HO_3.out) hb); have n1_ := Aside0.mk (below_step (by repeat (first | (with_reducible first | exact HB.out | apply below_alloc | apply pw_below_drewN | apply below_drew1) | exact HB.out)) hb); clear HO_3; clear HB; have HO_3 := n0_; have HB := n1_; clear n0_ n1_; (try clear hb); (try clear hb2); (try clear hk); (try clear hi); obtain ⟨Ao9, co9, eo9⟩ := Kd.R_slice HO_3.out; subst eo9) | ((with_reducible refine gate_callee (f := 21) rfl ?_); refine goesL_ (some 24) rfl rfl Tryd.func21 (by kernel_rfl) rfl #[.slice Ao9 x3_1.length co9, .int .i64 t311] rfl (by (try simp only [List.map_toArray, List.map_cons, List.map_nil]); first | done | rfl | (simp only [List.length_drop, List.length_take]; rfl)) ?_; (with_reducible refine (kauditref26_Add.calls k1 _ _ x3_1 t311 t314 _ ?side1 ?side2 A7.out).mono ?_); (case side1 => repeat (first | exact (Kd.R_reads' HO_3.out).2.2 | (with_reducible refine Kd.C_alloc ?_ _) | (with_reducible refine Kd.C_drewN ?_ _) | (with_reducible refine Kd.C_drew ?_))); (case side2 => exact (Kd.R_reads' HO_3.out).2.1); rintro e w10 ⟨v315, rfl, ho0, hb⟩; refine ⟨_, rfl, ?_⟩; have n0_ := Aside0.mk (Kd.R_elder' (by (with_reducible repeat (first | apply Kd.R_alloc | apply Kd.R_drewN | apply Kd.R_drew)); exact HO_3.out) (Kd.R_base ho0) hb); have n1_ := Aside0.mk (Kd.R_lower (Kd.R_new' ho0 (Kd.R_lt (by (with_reducible repeat (first | apply Kd.R_alloc | apply Kd.R_drewN | apply Kd.R_drew)); exact HO_3.out))) (below_size (by repeat (first | (with_reducible first | exact HB.out | apply below_alloc | apply pw_below_drewN | apply below_drew1) | exact HB.out)))); have n2_ := Aside0.mk (below_step (by repeat (first | (with_reducible first | exact HB.out | apply below_alloc | apply pw_below_drewN | apply below_drew1) | exact HB.out)) hb); clear HO_3; clear HB; have HO_3 := n0_; have HO316 := n1_; have HB := n2_; clear n0_ n1_ n2_; (try clear hb); (try clear hb2); (try clear hk); (try clear hi); (try clear ho0)))
              go_roundg k1
              case measure => have := HK1.out; omega
              case rel => exact ⟨(t314), (wrap64 (x11_1 + 1)), (by first | rfl | (simp; done) | (simp [*]; done)), H', ⟨by have := HK1.out; omega⟩, ⟨by (with_reducible repeat (first | apply Kd.R_alloc | apply Kd.R_drewN | apply Kd.R_drew)); exact Kd.R_mono HO316.out (fun _ hk => trivial)⟩, ⟨by repeat (first | (with_reducible first | exact HB.out | apply below_alloc | apply pw_below_drewN | apply below_drew1) | exact HB.out)⟩⟩
            · replace c6 := Bool.eq_false_iff.mpr c6
              subst c6
              have H1 : (kauditref26_Numbers.l0 k1 x3_1 l0 (l0.length : Int) (wrap64 (x11_1 + 1))) = some r := by rw [if_neg (show ¬ (false = true) by decide)] at H; exact H
              clear H
              have H := H1
              clear H1
              have H' := Aside0.mk H
              clear H
              have p310 : 0 ≤ (x11_1 : Int) := of_decide_eq_true (by first | (with_reducible assumption) | assumption)
              have q310 : x11_1 < (l0.length : Int) := of_decide_eq_true (by first | (with_reducible assumption) | assumption)
              obtain ⟨ad310, e310, hx310_0⟩ := Kd.at_string HR0.out x11_1 p310 q310
              cases e310
              replace hx310_0 := (HB.out.cell (World.block_lt_of_cell? w _ hx310_0)).trans hx310_0
              replace p310 := eq_true p310
              replace q310 := eq_true q310
              go_wp2_with (first | ((with_reducible refine gate_callee (f := 25) rfl ?_); refine goesL_ (some 17) rfl rfl Tryd.func25 (by kernel_rfl) rfl #[.string (rdOf ByteArray.empty l0 x11_1)] rfl (by (try simp only [List.map_toArray, List.map_cons, List.map_nil]); first | done | rfl | (simp only [List.length_drop, List.length_take]; rfl)) ?_; (with_reducible refine (kauditref26_Number.calls k1 (rdOf ByteArray.empty l0 x11_1) t311 false t313 _ A5.out).mono ?_); rintro e w11 ⟨rfl, hb⟩; refine ⟨_, rfl, ?_⟩; have n0_ := Aside0.mk (Kd.R_below (by (with_reducible repeat (first | apply Kd.R_alloc | apply Kd.R_drewN | apply Kd.R_drew)); exact HO_3.out) hb); have n1_ := Aside0.mk (below_step (by repeat (first | (with_reducible first | exact HB.out | apply below_alloc | apply pw_below_drewN | apply below_drew1) | exact HB.out)) hb); clear HO_3; clear HB; have HO_3 := n0_; have HB := n1_; clear n0_ n1_; (try clear hb); (try clear hb2); (try clear hk); (try clear hi)))
              go_roundg k1
              case measure => have := HK1.out; omega
              case rel => exact ⟨(x3_1), (wrap64 (x11_1 + 1)), (by first | rfl | (simp; done) | (simp [*]; done)), H', ⟨by have := HK1.out; omega⟩, ⟨by (with_reducible repeat (first | apply Kd.R_alloc | apply Kd.R_drewN | apply Kd.R_drew)); exact HO_3.out⟩, ⟨by repeat (first | (with_reducible first | exact HB.out | apply below_alloc | apply pw_below_drewN | apply below_drew1) | exact HB.out)⟩⟩
          · rw [if_neg c4] at H
            exact absurd H (by simp)
        · rw [if_neg c3] at H
          exact absurd H (by simp)
      · rw [if_neg c2] at H
        have c2b0 : decide (x11_1 < (l0.length : Int)) = false := decide_eq_false c2
        clear c2
        obtain rfl := Option.some.inj H
        go_wp2
        go_ret
        exact ⟨_, by first | rfl | (simp [errW_none, errW_some] <;> rfl) | (simp [*, errW_none, errW_some] <;> rfl), by (with_reducible repeat (first | apply Kd.R_alloc | apply Kd.R_drewN | apply Kd.R_drew)); exact HO_3.out, by repeat (first | (with_reducible first | exact HB.out | apply below_alloc | apply pw_below_drewN | apply below_drew1) | exact HB.out)⟩

/-! ### kauditlaw26_RotateNumbers: function 8 -/
def kauditlaw26_RotateNumbers.l0 : Nat → List ByteArray → Int → List Int → Int → Option (Bool)
  | 0, _, _, _, _ => none
  | k + 1, x6, x7, x320000, x320001 => if x7 > 0 then ((kauditmill_Case_Int.f x320000 x320001 9).bind fun bt325 => ((rotate_Name.f bt325.1).bind fun t327 => ((kauditmill_Case_Int.f x320000 bt325.2 9).bind fun bt328 => ((rotate_Packed.f bt328.1).bind fun t330 => ((kauditmill_Case_Text.f x320000 bt328.2).bind fun bt331 => ((some (([t327, t330, bt331.1] : List ByteArray) : List ByteArray)).bind fun y333 => (if x6.length + y333.length < 8796093022208 then (kauditlaw26_RotateNumbers.l0 k (x6 ++ y333) (wrap64 (x7 - 1)) x320000 bt331.2) else (none)))))))) else ((rotate_Numbers.f k x6).bind fun t339 => ((kauditref26_Numbers.f k x6).bind fun t342 => ((kauditref26_SameInts.f k t339 t342).bind fun t345 => (if t345 = true then ((kauditlaw26_begun.f k).bind fun t346 => (some t346)) else (some false)))))
def kauditlaw26_RotateNumbers.f (k : Nat) (l0 : List Int) (l1 : List ByteArray) : Option (Bool) := (kauditmill_New.f l0 60).bind fun bt317 => (if ([] : List ByteArray).length + l1.length < 8796093022208 then ((kauditmill_Case_Int.f bt317.1 bt317.2 9).bind fun bt323 => (kauditlaw26_RotateNumbers.l0 k (([] : List ByteArray) ++ l1) bt323.1 bt317.1 bt323.2)) else (none))
theorem kauditlaw26_RotateNumbers.mono_l : ∀ k, (∀ y0 y1 y2 y3, LeO (kauditlaw26_RotateNumbers.l0 k y0 y1 y2 y3) (kauditlaw26_RotateNumbers.l0 (k + 1) y0 y1 y2 y3))
  | 0 => fun _ _ _ _ r h => by simp [kauditlaw26_RotateNumbers.l0] at h
  | k + 1 => by
    have ih0 := kauditlaw26_RotateNumbers.mono_l k
    · intro y0 y1 y2 y3
      unfold kauditlaw26_RotateNumbers.l0
      repeat' first
      | (with_reducible exact ih0 _ _ _ _)
      | (with_reducible exact kauditlaw26_begun.mono _)
      | (with_reducible exact kauditref26_Numbers.mono _ _)
      | (with_reducible exact kauditref26_SameInts.mono _ _ _)
      | (with_reducible exact rotate_Numbers.mono _ _)
      | (with_reducible exact LeO.refl _)
      | (with_reducible exact LeO.none _)
      | (with_reducible refine LeO.ite ?_ ?_)
      | (with_reducible refine LeO.bind ?_ (fun _ => ?_))
      | exact ih0 _ _ _ _
      | exact kauditlaw26_begun.mono _
      | exact kauditref26_Numbers.mono _ _
      | exact kauditref26_SameInts.mono _ _ _
      | exact rotate_Numbers.mono _ _
      | exact LeO.none _
      | refine LeO.ite ?_ ?_
      | refine LeO.bind ?_ (fun _ => ?_)
theorem kauditlaw26_RotateNumbers.mono : ∀ a0 a1 k, LeO (kauditlaw26_RotateNumbers.f k a0 a1) (kauditlaw26_RotateNumbers.f (k + 1) a0 a1) := by
  intro a0 a1 k
  have ih0 := kauditlaw26_RotateNumbers.mono_l k
  unfold kauditlaw26_RotateNumbers.f
  repeat' first
      | (with_reducible exact ih0 _ _ _ _)
      | (with_reducible exact kauditlaw26_begun.mono _)
      | (with_reducible exact kauditref26_Numbers.mono _ _)
      | (with_reducible exact kauditref26_SameInts.mono _ _ _)
      | (with_reducible exact rotate_Numbers.mono _ _)
      | (with_reducible exact LeO.refl _)
      | (with_reducible exact LeO.none _)
      | (with_reducible refine LeO.ite ?_ ?_)
      | (with_reducible refine LeO.bind ?_ (fun _ => ?_))
      | exact ih0 _ _ _ _
      | exact kauditlaw26_begun.mono _
      | exact kauditref26_Numbers.mono _ _
      | exact kauditref26_SameInts.mono _ _ _
      | exact rotate_Numbers.mono _ _
      | exact LeO.none _
      | refine LeO.ite ?_ ?_
      | refine LeO.bind ?_ (fun _ => ?_)
set_option maxHeartbeats 8000000 in
set_option maxRecDepth 100000 in
theorem kauditlaw26_RotateNumbers.calls (k : Nat) (A0 : Option Addr) (c0 : Nat) (l0 : List Int) (A1 : Option Addr) (c1 : Nat) (l1 : List ByteArray) (r : Bool) (w : World) (hT : TabOk w) (hr0 : Kd.C (Kd.int .u8) w A0 l0.length l0) (hc0 : l0.length ≤ c0) (hr1 : Kd.C Kd.string w A1 l1.length l1) (hc1 : l1.length ≤ c1) (h : kauditlaw26_RotateNumbers.f k l0 l1 = some r) :
    Calls Tryd.prog 8 #[.slice A0 l0.length c0, .slice A1 l1.length c1] w fun e w' => e = .returned (.bool r) ∧ Below w.heap.size w w' := by
  have HT := Aside0.mk hT
  clear hT
  have HR0 := Aside0.mk hr0
  have HC0 := Aside0.mk hc0
  clear hr0 hc0
  have HR1 := Aside0.mk hr1
  have HC1 := Aside0.mk hc1
  clear hr1 hc1
  have HB := Aside0.mk (Below.refl w.heap.size w)
  have H : ((kauditmill_New.f l0 60).bind fun bt317 => (if ([] : List ByteArray).length + l1.length < 8796093022208 then ((kauditmill_Case_Int.f bt317.1 bt317.2 9).bind fun bt323 => (kauditlaw26_RotateNumbers.l0 k (([] : List ByteArray) ++ l1) bt323.1 bt317.1 bt323.2)) else (none))) = some r := h
  clear h
  replace H := Option.bind_eq_some_iff.mp H
  obtain ⟨⟨t317, t318⟩, A30, H⟩ := H
  replace H : (if ([] : List ByteArray).length + l1.length < 8796093022208 then ((kauditmill_Case_Int.f t317 t318 9).bind fun bt323 => (kauditlaw26_RotateNumbers.l0 k (([] : List ByteArray) ++ l1) bt323.1 t317 bt323.2)) else (none)) = some r := H
  have A3 := Aside0.mk A30
  clear A30
  by_cases c4 : ([] : List ByteArray).length + l1.length < 8796093022208
  · rw [if_pos c4] at H
    have LMc4 := Aside0.mk c4
    clear c4
    obtain ⟨y320, hy320⟩ : ∃ y_ : List ByteArray, y_ = (([] : List ByteArray) ++ l1) := ⟨_, rfl⟩
    replace H : ((kauditmill_Case_Int.f t317 t318 9).bind fun bt323 => (kauditlaw26_RotateNumbers.l0 k y320 bt323.1 t317 bt323.2)) = some r := by first | (rw [hy320]; with_reducible exact H) | (have H2_ := (Option.bind_some _ _).symm.trans H; rw [hy320]; with_reducible exact H2_) | (have H2_ := (Option.bind_some _ _).symm.trans H; with_reducible exact H2_) | with_reducible exact H | (rw [hy320]; exact H) | exact H
    have Ny320 := Aside0.mk hy320
    clear hy320
    replace H := Option.bind_eq_some_iff.mp H
    obtain ⟨⟨t323, t324⟩, A50, H⟩ := H
    replace H : (kauditlaw26_RotateNumbers.l0 k y320 t323 t317 t324) = some r := H
    have A5 := Aside0.mk A50
    clear A50
    have H' := Aside0.mk H
    clear H
    go_enter Tryd.func8, Tryd.ntmps8
    go_wp2_with (first | ((with_reducible refine gate_callee (f := 9) rfl ?_); refine goesL_ (some 9) rfl rfl Tryd.func9 (by kernel_rfl) rfl #[.slice A0 l0.length c0, .int .i64 60] rfl (by (try simp only [List.map_toArray, List.map_cons, List.map_nil]); first | done | rfl | (simp only [List.length_drop, List.length_take]; rfl)) ?_; (with_reducible refine (kauditmill_New.calls _ _ l0 60 t317 t318 w _ ?side1 ?side2 ?side3 A3.out).mono ?_); (case side1 => repeat (first | (with_reducible first | exact HB.out | apply below_alloc | apply pw_below_drewN | apply below_drew1) | exact HB.out)); (case side2 => exact HR0.out); (case side3 => exact HC0.out); rintro e w6 ⟨g319, rfl, hi, hb, hb2⟩; refine ⟨_, rfl, ?_⟩; have n0_ := Aside0.mk (hb); have n1_ := Aside0.mk (hi); clear HB; have HB := n0_; have HI319 := n1_; clear n0_ n1_; (try clear hb); (try clear hb2); (try clear hk); (try clear hi)) | ((with_reducible refine gate_builtin (b := .append) (xs := #[(.const (.slice none 0 0)), .tmp 10]) rfl ?_); at_builtin; refine Kd.R_append_rows Kd.string (w0 := w) w.heap.size rfl (.const (.slice none 0 0)) (.tmp 10) 45 9 (.string ⟨#[]⟩) 16 rfl Tryd.underlying45 info9 rfl (by decide) (by omega) (.slice none 0 0) ([] : List ByteArray) l1 _ _ _ (fun _ => True) (fun _ => False) rfl rfl ?aO ?aR (fun _ _ h => h) (fun _ h => h.elim) ?aF ?aB ?aS ?aL ?_; (case aR => repeat (first | exact (Kd.C_below HR1.out HB.out) | (with_reducible refine Kd.C_alloc ?_ _) | (with_reducible refine Kd.C_drewN ?_ _) | (with_reducible refine Kd.C_drew ?_))); (case aB => exact (by repeat (first | (with_reducible first | exact HB.out | apply below_alloc | apply pw_below_drewN | apply below_drew1 | refine below_set ?_ (IsS54.ge HI319.out)) | exact HB.out))); (case aF => exact (fun _ _ => trivial)); (case aO => exact ((Kd.R_nil _ _ _ _ (fun _ => True)))); (case aS => exact (below_size (by repeat (first | (with_reducible first | exact HB.out | apply below_alloc | apply pw_below_drewN | apply below_drew1 | refine below_set ?_ (IsS54.ge HI319.out)) | exact HB.out)))); (case aL => have := LMc4.out; omega); intro v321 w7 ho hb hg hat; rw [← Ny320.out] at ho; have n0_ := Aside0.mk (IsS54.grown (by repeat (first | (with_reducible first | exact HI319.out | apply IsS54.alloc | apply IsS54.drewN | apply IsS54.drew | apply IsS54.set_1) | exact HI319.out)) hg (by simp [Value.ownBlock])); have n1_ := Aside0.mk (hb); have n2_ := Aside0.mk (ho); clear HI319; clear HB; have HI319 := n0_; have HB := n1_; have HO322 := n2_; clear n0_ n1_ n2_; clear ho hb hg hat) | ((with_reducible refine gate_callee (f := 17) rfl ?_); refine goesL_ (some 13) rfl rfl Tryd.func17 (by kernel_rfl) rfl #[.pointer (some ⟨g319, 0, none⟩), .int .i64 9] rfl (by (try simp only [List.map_toArray, List.map_cons, List.map_nil]); first | done | rfl | (simp only [List.length_drop, List.length_take]; rfl)) ?_; (with_reducible refine (kauditmill_Case_Int.calls g319 t317 t318 9 t323 t324 w _ ?side1 ?side2 A5.out).mono ?_); (case side1 => repeat (first | (with_reducible first | exact HI319.out | apply IsS54.alloc | apply IsS54.drewN | apply IsS54.drew | apply IsS54.set_1) | exact HI319.out)); (case side2 => repeat (first | (with_reducible first | exact HB.out | apply below_alloc | apply pw_below_drewN | apply below_drew1 | refine below_set ?_ (IsS54.ge HI319.out)) | exact HB.out)); rintro e w8 ⟨rfl, hi, hb, hk⟩; refine ⟨_, rfl, ?_⟩; have n0_ := Aside0.mk (Kd.R_mono (Kd.R_keep (IsS54.apart (show IsS54 w _ g319 t317 t318 from by repeat (first | (with_reducible first | exact HI319.out | apply IsS54.alloc | apply IsS54.drewN | apply IsS54.drew | apply IsS54.set_1) | exact HI319.out)) (by (with_reducible repeat (first | apply Kd.R_alloc | apply Kd.R_drewN | apply Kd.R_drew)); exact HO322.out) (by decide)) hk (fun _ h => h.2)) (fun _ h => h.1)); have n1_ := Aside0.mk (hb); have n2_ := Aside0.mk (hi); clear HO322; clear HB; clear HI319; have HO322 := n0_; have HB := n1_; have HI319 := n2_; clear n0_ n1_ n2_; (try clear hb); (try clear hb2); (try clear hk); (try clear hi)))
    go_loopg [6, 7] k (fun kq v6 v7 w' => ∃ (x6_1 : List ByteArray) (x7_1 : Int) (x320001_1 : Int), v7 = .int .i64 x7_1 ∧ Aside0 (kauditlaw26_RotateNumbers.l0 kq x6_1 x7_1 t317 x320001_1 = some r) ∧ Aside0 (kq ≤ k) ∧ Aside0 (Kd.R Kd.string 9 w' w.heap.size (fun _ => True) v6 x6_1) ∧ Aside0 (IsS54 w w' g319 t317 x320001_1) ∧ Aside0 (Below w.heap.size w w'))
    case atStart => exact ⟨(y320), (t323), (t324), (by first | rfl | (simp; done) | (simp [*]; done)), H', ⟨Nat.le_refl _⟩, ⟨by (with_reducible repeat (first | apply Kd.R_alloc | apply Kd.R_drewN | apply Kd.R_drew)); exact HO322.out⟩, ⟨by repeat (first | (with_reducible first | exact HI319.out | apply IsS54.alloc | apply IsS54.drewN | apply IsS54.drew | apply IsS54.set_1) | exact HI319.out)⟩, ⟨by repeat (first | (with_reducible first | exact HB.out | apply below_alloc | apply pw_below_drewN | apply below_drew1 | refine below_set ?_ (IsS54.ge HI319.out)) | exact HB.out)⟩⟩
    case round =>
      clear H'
      try clear c1
      try clear p2
      try clear c4
      try clear c8
      obtain ⟨x6_1, x7_1, x320001_1, rfl, HA, HK1, HO_6, HI319, HB⟩ := hrel
      cases gk with
      | zero => exact absurd HA.out (by simp [kauditlaw26_RotateNumbers.l0])
      | succ k1 =>
        have H := HA.out
        clear HA
        simp only [kauditlaw26_RotateNumbers.l0] at H
        by_cases c9 : x7_1 > 0
        · rw [if_pos c9] at H
          have c9b0 : decide (0 < x7_1) = true := decide_eq_true c9
          clear c9
          replace H := Option.bind_eq_some_iff.mp H
          obtain ⟨⟨t325, t326⟩, A100, H⟩ := H
          replace H : ((rotate_Name.f t325).bind fun t327 => ((kauditmill_Case_Int.f t317 t326 9).bind fun bt328 => ((rotate_Packed.f bt328.1).bind fun t330 => ((kauditmill_Case_Text.f t317 bt328.2).bind fun bt331 => ((some (([t327, t330, bt331.1] : List ByteArray) : List ByteArray)).bind fun y333 => (if x6_1.length + y333.length < 8796093022208 then (kauditlaw26_RotateNumbers.l0 k1 (x6_1 ++ y333) (wrap64 (x7_1 - 1)) t317 bt331.2) else (none))))))) = some r := H
          have A10 := Aside0.mk A100
          clear A100
          replace H := Option.bind_eq_some_iff.mp H
          obtain ⟨t327, A110, H⟩ := H
          replace H : ((kauditmill_Case_Int.f t317 t326 9).bind fun bt328 => ((rotate_Packed.f bt328.1).bind fun t330 => ((kauditmill_Case_Text.f t317 bt328.2).bind fun bt331 => ((some (([t327, t330, bt331.1] : List ByteArray) : List ByteArray)).bind fun y333 => (if x6_1.length + y333.length < 8796093022208 then (kauditlaw26_RotateNumbers.l0 k1 (x6_1 ++ y333) (wrap64 (x7_1 - 1)) t317 bt331.2) else (none)))))) = some r := H
          have A11 := Aside0.mk A110
          clear A110
          replace H := Option.bind_eq_some_iff.mp H
          obtain ⟨⟨t328, t329⟩, A120, H⟩ := H
          replace H : ((rotate_Packed.f t328).bind fun t330 => ((kauditmill_Case_Text.f t317 t329).bind fun bt331 => ((some (([t327, t330, bt331.1] : List ByteArray) : List ByteArray)).bind fun y333 => (if x6_1.length + y333.length < 8796093022208 then (kauditlaw26_RotateNumbers.l0 k1 (x6_1 ++ y333) (wrap64 (x7_1 - 1)) t317 bt331.2) else (none))))) = some r := H
          have A12 := Aside0.mk A120
          clear A120
          replace H := Option.bind_eq_some_iff.mp H
          obtain ⟨t330, A130, H⟩ := H
          replace H : ((kauditmill_Case_Text.f t317 t329).bind fun bt331 => ((some (([t327, t330, bt331.1] : List ByteArray) : List ByteArray)).bind fun y333 => (if x6_1.length + y333.length < 8796093022208 then (kauditlaw26_RotateNumbers.l0 k1 (x6_1 ++ y333) (wrap64 (x7_1 - 1)) t317 bt331.2) else (none)))) = some r := H
          have A13 := Aside0.mk A130
          clear A130
          replace H := Option.bind_eq_some_iff.mp H
          obtain ⟨⟨t331, t332⟩, A140, H⟩ := H
          replace H : ((some (([t327, t330, t331] : List ByteArray) : List ByteArray)).bind fun y333 => (if x6_1.length + y333.length < 8796093022208 then (kauditlaw26_RotateNumbers.l0 k1 (x6_1 ++ y333) (wrap64 (x7_1 - 1)) t317 t332) else (none))) = some r := H
          have A14 := Aside0.mk A140
          clear A140
          obtain ⟨y333, hy333⟩ : ∃ y_ : List ByteArray, y_ = (([t327, t330, t331] : List ByteArray)) := ⟨_, rfl⟩
          replace H : (if x6_1.length + y333.length < 8796093022208 then (kauditlaw26_RotateNumbers.l0 k1 (x6_1 ++ y333) (wrap64 (x7_1 - 1)) t317 t332) else (none)) = some r := by first | (rw [hy333]; with_reducible exact H) | (have H2_ := (Option.bind_some _ _).symm.trans H; rw [hy333]; with_reducible exact H2_) | (have H2_ := (Option.bind_some _ _).symm.trans H; with_reducible exact H2_) | with_reducible exact H | (rw [hy333]; exact H) | exact H
          have Ny333 := Aside0.mk hy333
          clear hy333
          by_cases c15 : x6_1.length + y333.length < 8796093022208
          · rw [if_pos c15] at H
            have LMc15 := Aside0.mk c15
            clear c15
            obtain ⟨y336, hy336⟩ : ∃ y_ : List ByteArray, y_ = (x6_1 ++ y333) := ⟨_, rfl⟩
            replace H : (kauditlaw26_RotateNumbers.l0 k1 y336 (wrap64 (x7_1 - 1)) t317 t332) = some r := by first | (rw [hy336]; with_reducible exact H) | (have H2_ := (Option.bind_some _ _).symm.trans H; rw [hy336]; with_reducible exact H2_) | (have H2_ := (Option.bind_some _ _).symm.trans H; with_reducible exact H2_) | with_reducible exact H | (rw [hy336]; exact H) | exact H
            have Ny336 := Aside0.mk hy336
            clear hy336
            have H' := Aside0.mk H
            clear H
            go_wp2_with (first | ((with_reducible refine gate_callee (f := 17) rfl ?_); refine goesL_ (some 20) rfl rfl Tryd.func17 (by kernel_rfl) rfl #[.pointer (some ⟨g319, 0, none⟩), .int .i64 9] rfl (by (try simp only [List.map_toArray, List.map_cons, List.map_nil]); first | done | rfl | (simp only [List.length_drop, List.length_take]; rfl)) ?_; (with_reducible refine (kauditmill_Case_Int.calls g319 t317 x320001_1 9 t325 t326 w _ ?side1 ?side2 A10.out).mono ?_); (case side1 => repeat (first | (with_reducible first | exact HI319.out | apply IsS54.alloc | apply IsS54.drewN | apply IsS54.drew | apply IsS54.set_1) | exact HI319.out)); (case side2 => repeat (first | (with_reducible first | exact HB.out | apply below_alloc | apply pw_below_drewN | apply below_drew1 | refine below_set ?_ (IsS54.ge HI319.out)) | exact HB.out)); rintro e w16 ⟨rfl, hi, hb, hk⟩; refine ⟨_, rfl, ?_⟩; have n0_ := Aside0.mk (Kd.R_mono (Kd.R_keep (IsS54.apart (show IsS54 w _ g319 t317 x320001_1 from by repeat (first | (with_reducible first | exact HI319.out | apply IsS54.alloc | apply IsS54.drewN | apply IsS54.drew | apply IsS54.set_1) | exact HI319.out)) (by (with_reducible repeat (first | apply Kd.R_alloc | apply Kd.R_drewN | apply Kd.R_drew)); exact HO_6.out) (by decide)) hk (fun _ h => h.2)) (fun _ h => h.1)); have n1_ := Aside0.mk (hb); have n2_ := Aside0.mk (hi); clear HO_6; clear HB; clear HI319; have HO_6 := n0_; have HB := n1_; have HI319 := n2_; clear n0_ n1_ n2_; (try clear hb); (try clear hb2); (try clear hk); (try clear hi)) | ((with_reducible refine gate_callee (f := 22) rfl ?_); refine goesL_ (some 21) rfl rfl Tryd.func22 (by kernel_rfl) rfl #[.int .i64 t325] rfl (by (try simp only [List.map_toArray, List.map_cons, List.map_nil]); first | done | rfl | (simp only [List.length_drop, List.length_take]; rfl)) ?_; (with_reducible refine (rotate_Name.calls t325 t327 _ ?side1 A11.out).mono ?_); (case side1 => exact TabOk.below HT.out (by repeat (first | (with_reducible first | exact HB.out | apply below_alloc | apply pw_below_drewN | apply below_drew1 | refine below_set ?_ (IsS54.ge HI319.out)) | exact HB.out))); rintro e w17 ⟨rfl, hb⟩; refine ⟨_, rfl, ?_⟩; have n0_ := Aside0.mk (Kd.R_below (by (with_reducible repeat (first | apply Kd.R_alloc | apply Kd.R_drewN | apply Kd.R_drew)); exact HO_6.out) hb); have n1_ := Aside0.mk (IsS54.below (by repeat (first | (with_reducible first | exact HI319.out | apply IsS54.alloc | apply IsS54.drewN | apply IsS54.drew | apply IsS54.set_1) | exact HI319.out)) hb); have n2_ := Aside0.mk (below_step (by repeat (first | (with_reducible first | exact HB.out | apply below_alloc | apply pw_below_drewN | apply below_drew1 | refine below_set ?_ (IsS54.ge HI319.out)) | exact HB.out)) hb); clear HO_6; clear HI319; clear HB; have HO_6 := n0_; have HI319 := n1_; have HB := n2_; clear n0_ n1_ n2_; (try clear hb); (try clear hb2); (try clear hk); (try clear hi)) | ((with_reducible refine gate_callee (f := 17) rfl ?_); refine goesL_ (some 23) rfl rfl Tryd.func17 (by kernel_rfl) rfl #[.pointer (some ⟨g319, 0, none⟩), .int .i64 9] rfl (by (try simp only [List.map_toArray, List.map_cons, List.map_nil]); first | done | rfl | (simp only [List.length_drop, List.length_take]; rfl)) ?_; (with_reducible refine (kauditmill_Case_Int.calls g319 t317 t326 9 t328 t329 w _ ?side1 ?side2 A12.out).mono ?_); (case side1 => repeat (first | (with_reducible first | exact HI319.out | apply IsS54.alloc | apply IsS54.drewN | apply IsS54.drew | apply IsS54.set_1) | exact HI319.out)); (case side2 => repeat (first | (with_reducible first | exact HB.out | apply below_alloc | apply pw_below_drewN | apply below_drew1 | refine below_set ?_ (IsS54.ge HI319.out)) | exact HB.out)); rintro e w18 ⟨rfl, hi, hb, hk⟩; refine ⟨_, rfl, ?_⟩; have n0_ := Aside0.mk (Kd.R_mono (Kd.R_keep (IsS54.apart (show IsS54 w _ g319 t317 t326 from by repeat (first | (with_reducible first | exact HI319.out | apply IsS54.alloc | apply IsS54.drewN | apply IsS54.drew | apply IsS54.set_1) | exact HI319.out)) (by (with_reducible repeat (first | apply Kd.R_alloc | apply Kd.R_drewN | apply Kd.R_drew)); exact HO_6.out) (by decide)) hk (fun _ h => h.2)) (fun _ h => h.1)); have n1_ := Aside0.mk (hb); have n2_ := Aside0.mk (hi); clear HO_6; clear HB; clear HI319; have HO_6 := n0_; have HB := n1_; have HI319 := n2_; clear n0_ n1_ n2_; (try clear hb); (try clear hb2); (try clear hk); (try clear hi)) | ((with_reducible refine gate_callee (f := 23) rfl ?_); refine goesL_ (some 24) rfl rfl Tryd.func23 (by kernel_rfl) rfl #[.int .i64 t328] rfl (by (try simp only [List.map_toArray, List.map_cons, List.map_nil]); first | done | rfl | (simp only [List.length_drop, List.length_take]; rfl)) ?_; (with_reducible refine (rotate_Packed.calls t328 t330 _ ?side1 A13.out).mono ?_); (case side1 => exact TabOk.below HT.out (by repeat (first | (with_reducible first | exact HB.out | apply below_alloc | apply pw_below_drewN | apply below_drew1 | refine below_set ?_ (IsS54.ge HI319.out)) | exact HB.out))); rintro e w19 ⟨rfl, hb⟩; refine ⟨_, rfl, ?_⟩; have n0_ := Aside0.mk (Kd.R_below (by (with_reducible repeat (first | apply Kd.R_alloc | apply Kd.R_drewN | apply Kd.R_drew)); exact HO_6.out) hb); have n1_ := Aside0.mk (IsS54.below (by repeat (first | (with_reducible first | exact HI319.out | apply IsS54.alloc | apply IsS54.drewN | apply IsS54.drew | apply IsS54.set_1) | exact HI319.out)) hb); have n2_ := Aside0.mk (below_step (by repeat (first | (with_reducible first | exact HB.out | apply below_alloc | apply pw_below_drewN | apply below_drew1 | refine below_set ?_ (IsS54.ge HI319.out)) | exact HB.out)) hb); clear HO_6; clear HI319; clear HB; have HO_6 := n0_; have HI319 := n1_; have HB := n2_; clear n0_ n1_ n2_; (try clear hb); (try clear hb2); (try clear hk); (try clear hi)) | ((with_reducible refine gate_callee (f := 28) rfl ?_); refine goesL_ (some 26) rfl rfl Tryd.func28 (by kernel_rfl) rfl #[.pointer (some ⟨g319, 0, none⟩)] rfl (by (try simp only [List.map_toArray, List.map_cons, List.map_nil]); first | done | rfl | (simp only [List.length_drop, List.length_take]; rfl)) ?_; (with_reducible refine (kauditmill_Case_Text.calls g319 t317 t329 t331 t332 w _ ?side1 ?side2 A14.out).mono ?_); (case side1 => repeat (first | (with_reducible first | exact HI319.out | apply IsS54.alloc | apply IsS54.drewN | apply IsS54.drew | apply IsS54.set_1) | exact HI319.out)); (case side2 => repeat (first | (with_reducible first | exact HB.out | apply below_alloc | apply pw_below_drewN | apply below_drew1 | refine below_set ?_ (IsS54.ge HI319.out)) | exact HB.out)); rintro e w20 ⟨rfl, hi, hb, hk⟩; refine ⟨_, rfl, ?_⟩; have n0_ := Aside0.mk (Kd.R_mono (Kd.R_keep (IsS54.apart (show IsS54 w _ g319 t317 t329 from by repeat (first | (with_reducible first | exact HI319.out | apply IsS54.alloc | apply IsS54.drewN | apply IsS54.drew | apply IsS54.set_1) | exact HI319.out)) (by (with_reducible repeat (first | apply Kd.R_alloc | apply Kd.R_drewN | apply Kd.R_drew)); exact HO_6.out) (by decide)) hk (fun _ h => h.2)) (fun _ h => h.1)); have n1_ := Aside0.mk (hb); have n2_ := Aside0.mk (hi); clear HO_6; clear HB; clear HI319; have HO_6 := n0_; have HB := n1_; have HI319 := n2_; clear n0_ n1_ n2_; (try clear hb); (try clear hb2); (try clear hk); (try clear hi)) | ((with_reducible refine gate_dst (N := 27) rfl ?_); refine Kd.R_lit Kd.string _ 9 ?hg (N := 27) ?hd (xs := ([t327, t330, t331] : List ByteArray)) (inner := [.string t327, .string t330, .string t331]) (ok := fun _ => True) (okp := fun _ => True) ?hr ?hp (fun _ hk => hk) trivial (Below.refl _ _) (Nat.le_refl _) (by simp) ?_; (case hd => rfl); (case hg => rfl); (case hr => first | (go_simp; done) | (go_simp; rfl)); (case hp => exact (Reps.one (show Kd.M Kd.string _ _ _ t327 [.string t327] from rfl) (Reps.one (show Kd.M Kd.string _ _ _ t330 [.string t330] from rfl) (Reps.one (show Kd.M Kd.string _ _ _ t331 [.string t331] from rfl) (Reps.none _ _))))); intro v334 w21 ho22 hb hg_ hnew_; clear hg_ hnew_; (first | rw [← Ny333.out] at ho22 | (simp only [Int.reduceToNat] at ho22; rw [← Ny333.out] at ho22)); have n0_ := Aside0.mk (Kd.R_elder' (by (with_reducible repeat (first | apply Kd.R_alloc | apply Kd.R_drewN | apply Kd.R_drew)); exact HO_6.out) (Kd.R_base ho22) hb); have n1_ := Aside0.mk (Kd.R_lower (Kd.R_new' ho22 (Kd.R_lt (by (with_reducible repeat (first | apply Kd.R_alloc | apply Kd.R_drewN | apply Kd.R_drew)); exact HO_6.out))) (below_size (by repeat (first | (with_reducible first | exact HB.out | apply below_alloc | apply pw_below_drewN | apply below_drew1 | refine below_set ?_ (IsS54.ge HI319.out)) | exact HB.out)))); have n2_ := Aside0.mk (IsS54.below (by repeat (first | (with_reducible first | exact HI319.out | apply IsS54.alloc | apply IsS54.drewN | apply IsS54.drew | apply IsS54.set_1) | exact HI319.out)) hb); have n3_ := Aside0.mk (below_step (by repeat (first | (with_reducible first | exact HB.out | apply below_alloc | apply pw_below_drewN | apply below_drew1 | refine below_set ?_ (IsS54.ge HI319.out)) | exact HB.out)) hb); clear HO_6; clear HI319; clear HB; have HO_6 := n0_; have HO335 := n1_; have HI319 := n2_; have HB := n3_; clear n0_ n1_ n2_ n3_; clear hb ho22; obtain ⟨Ao24, co24, eo24⟩ := Kd.R_slice HO335.out; subst eo24) | ((with_reducible refine gate_builtin (b := .append) (xs := #[.tmp 18, .tmp 27]) rfl ?_); at_builtin; refine Kd.R_append_rows Kd.string (w0 := w) w.heap.size rfl (.tmp 18) (.tmp 27) 45 9 (.string ⟨#[]⟩) 16 rfl Tryd.underlying45 info9 rfl (by decide) (by omega) u6 x6_1 y333 _ _ _ (fun k_ => some k_ ≠ (.slice Ao24 y333.length co24 : Value).ownBlock) (fun _ => False) rfl rfl ?aO ?aR (fun _ _ h => h) (fun _ h => h.elim) ?aF ?aB ?aS ?aL ?_; (case aR => repeat (first | exact (Kd.R_reads' HO335.out).2.2 | (with_reducible refine Kd.C_alloc ?_ _) | (with_reducible refine Kd.C_drewN ?_ _) | (with_reducible refine Kd.C_drew ?_))); (case aB => exact (by repeat (first | (with_reducible first | exact HB.out | apply below_alloc | apply pw_below_drewN | apply below_drew1 | refine below_set ?_ (IsS54.ge HI319.out)) | exact HB.out))); (case aF => exact (fun k_ hk => Kd.fresh' (Kd.R_lt (by (with_reducible repeat (first | apply Kd.R_alloc | apply Kd.R_drewN | apply Kd.R_drew)); exact HO335.out)) k_ hk)); (case aO => exact (by (with_reducible repeat (first | apply Kd.R_alloc | apply Kd.R_drewN | apply Kd.R_drew)); exact Kd.R_mono HO_6.out (fun _ hk => hk.2))); (case aS => exact (below_size (by repeat (first | (with_reducible first | exact HB.out | apply below_alloc | apply pw_below_drewN | apply below_drew1 | refine below_set ?_ (IsS54.ge HI319.out)) | exact HB.out)))); (case aL => have := LMc15.out; omega); intro v337 w23 ho hb hg hat; rw [← Ny336.out] at ho; have n0_ := Aside0.mk (IsS54.grown (by repeat (first | (with_reducible first | exact HI319.out | apply IsS54.alloc | apply IsS54.drewN | apply IsS54.drew | apply IsS54.set_1) | exact HI319.out)) hg (IsS54.own_ne HI319.out HO_6.out (by decide))); have n1_ := Aside0.mk (Kd.R_after (ok := (fun _ => True)) (by (with_reducible repeat (first | apply Kd.R_alloc | apply Kd.R_drewN | apply Kd.R_drew)); exact HO335.out) hg hat); have n2_ := Aside0.mk (hb); have n3_ := Aside0.mk (ho); clear HI319; clear HO335; clear HB; clear HO_6; have HI319 := n0_; have HO335 := n1_; have HB := n2_; have HO338 := n3_; clear n0_ n1_ n2_ n3_; clear ho hb hg hat))
            go_roundg k1
            case measure => have := HK1.out; omega
            case rel => exact ⟨(y336), (wrap64 (x7_1 - 1)), (t332), (by first | rfl | (simp; done) | (simp [*]; done)), H', ⟨by have := HK1.out; omega⟩, ⟨by (with_reducible repeat (first | apply Kd.R_alloc | apply Kd.R_drewN | apply Kd.R_drew)); exact Kd.R_mono HO338.out (fun _ hk => trivial)⟩, ⟨by repeat (first | (with_reducible first | exact HI319.out | apply IsS54.alloc | apply IsS54.drewN | apply IsS54.drew | apply IsS54.set_1) | exact HI319.out)⟩, ⟨by repeat (first | (with_reducible first | exact HB.out | apply below_alloc | apply pw_below_drewN | apply below_drew1 | refine below_set ?_ (IsS54.ge HI319.out)) | exact HB.out)⟩⟩
          · rw [if_neg c15] at H
            exact absurd H (by simp)
        · rw [if_neg c9] at H
          have c9b0 : decide (0 < x7_1) = false := decide_eq_false c9
          clear c9
          replace H := Option.bind_eq_some_iff.mp H
          obtain ⟨t339, A250, H⟩ := H
          replace H : ((kauditref26_Numbers.f k1 x6_1).bind fun t342 => ((kauditref26_SameInts.f k1 t339 t342).bind fun t345 => (if t345 = true then ((kauditlaw26_begun.f k1).bind fun t346 => (some t346)) else (some false)))) = some r := H
          have A25 := Aside0.mk A250
          clear A250
          replace H := Option.bind_eq_some_iff.mp H
          obtain ⟨t342, A260, H⟩ := H
          replace H : ((kauditref26_SameInts.f k1 t339 t342).bind fun t345 => (if t345 = true then ((kauditlaw26_begun.f k1).bind fun t346 => (some t346)) else (some false))) = some r := H
          have A26 := Aside0.mk A260
          clear A260
          replace H := Option.bind_eq_some_iff.mp H
          obtain ⟨t345, A270, H⟩ := H
          replace H : (if t345 = true then ((kauditlaw26_begun.f k1).bind fun t346 => (some t346)) else (some false)) = some r := H
          have A27 := Aside0.mk A270
          clear A270
          by_cases c28 : t345 = true
          · subst c28
            have H1 : ((kauditlaw26_begun.f k1).bind fun t346 => (some t346)) = some r := by rw [if_pos rfl] at H; exact H
            clear H
            have H := H1
            clear H1
            replace H := Option.bind_eq_some_iff.mp H
            obtain ⟨t346, A290, H⟩ := H
            replace H : (some t346) = some r := H
            have A29 := Aside0.mk A290
            clear A290
            obtain rfl := Option.some.inj H
            obtain ⟨Ao30, co30, eo30⟩ := Kd.R_slice HO_6.out
            subst eo30
            go_wp2_with (first | ((with_reducible refine gate_callee (f := 29) rfl ?_); refine goesL_ (some 30) rfl rfl Tryd.func29 (by kernel_rfl) rfl #[.slice Ao30 x6_1.length co30] rfl (by (try simp only [List.map_toArray, List.map_cons, List.map_nil]); first | done | rfl | (simp only [List.length_drop, List.length_take]; rfl)) ?_; (with_reducible refine (rotate_Numbers.calls k1 _ _ x6_1 t339 _ ?side1 ?side2 A25.out).mono ?_); (case side1 => repeat (first | exact (Kd.R_reads' HO_6.out).2.2 | (with_reducible refine Kd.C_alloc ?_ _) | (with_reducible refine Kd.C_drewN ?_ _) | (with_reducible refine Kd.C_drew ?_))); (case side2 => exact (Kd.R_reads' HO_6.out).2.1); rintro e w31 ⟨v340, rfl, ho0, hb⟩; refine ⟨_, rfl, ?_⟩; have n0_ := Aside0.mk (Kd.R_below (by (with_reducible repeat (first | apply Kd.R_alloc | apply Kd.R_drewN | apply Kd.R_drew)); exact HO_6.out) hb); have n1_ := Aside0.mk (Kd.R_lower ho0 (below_size (by repeat (first | (with_reducible first | exact HB.out | apply below_alloc | apply pw_below_drewN | apply below_drew1 | refine below_set ?_ (IsS54.ge HI319.out)) | exact HB.out)))); have n2_ := Aside0.mk (IsS54.below (by repeat (first | (with_reducible first | exact HI319.out | apply IsS54.alloc | apply IsS54.drewN | apply IsS54.drew | apply IsS54.set_1) | exact HI319.out)) hb); have n3_ := Aside0.mk (below_step (by repeat (first | (with_reducible first | exact HB.out | apply below_alloc | apply pw_below_drewN | apply below_drew1 | refine below_set ?_ (IsS54.ge HI319.out)) | exact HB.out)) hb); clear HO_6; clear HI319; clear HB; have HO_6 := n0_; have HO341 := n1_; have HI319 := n2_; have HB := n3_; clear n0_ n1_ n2_ n3_; (try clear hb); (try clear hb2); (try clear hk); (try clear hi); (try clear ho0)) | ((with_reducible refine gate_callee (f := 30) rfl ?_); refine goesL_ (some 32) rfl rfl Tryd.func30 (by kernel_rfl) rfl #[.slice Ao30 x6_1.length co30] rfl (by (try simp only [List.map_toArray, List.map_cons, List.map_nil]); first | done | rfl | (simp only [List.length_drop, List.length_take]; rfl)) ?_; (with_reducible refine (kauditref26_Numbers.calls k1 _ _ x6_1 t342 _ ?side1 ?side2 A26.out).mono ?_); (case side1 => repeat (first | exact (Kd.R_reads' HO_6.out).2.2 | (with_reducible refine Kd.C_alloc ?_ _) | (with_reducible refine Kd.C_drewN ?_ _) | (with_reducible refine Kd.C_drew ?_))); (case side2 => exact (Kd.R_reads' HO_6.out).2.1); rintro e w32 ⟨v343, rfl, ho0, hb⟩; refine ⟨_, rfl, ?_⟩; have n0_ := Aside0.mk (Kd.R_below (by (with_reducible repeat (first | apply Kd.R_alloc | apply Kd.R_drewN | apply Kd.R_drew)); exact HO_6.out) hb); have n1_ := Aside0.mk (Kd.R_elder' (by (with_reducible repeat (first | apply Kd.R_alloc | apply Kd.R_drewN | apply Kd.R_drew)); exact HO341.out) (Kd.R_base ho0) hb); have n2_ := Aside0.mk (Kd.R_lower (Kd.R_new' ho0 (Kd.R_lt (by (with_reducible repeat (first | apply Kd.R_alloc | apply Kd.R_drewN | apply Kd.R_drew)); exact HO341.out))) (below_size (by repeat (first | (with_reducible first | exact HB.out | apply below_alloc | apply pw_below_drewN | apply below_drew1 | refine below_set ?_ (IsS54.ge HI319.out)) | exact HB.out)))); have n3_ := Aside0.mk (IsS54.below (by repeat (first | (with_reducible first | exact HI319.out | apply IsS54.alloc | apply IsS54.drewN | apply IsS54.drew | apply IsS54.set_1) | exact HI319.out)) hb); have n4_ := Aside0.mk (below_step (by repeat (first | (with_reducible first | exact HB.out | apply below_alloc | apply pw_below_drewN | apply below_drew1 | refine below_set ?_ (IsS54.ge HI319.out)) | exact HB.out)) hb); clear HO_6; clear HO341; clear HI319; clear HB; have HO_6 := n0_; have HO341 := n1_; have HO344 := n2_; have HI319 := n3_; have HB := n4_; clear n0_ n1_ n2_ n3_ n4_; (try clear hb); (try clear hb2); (try clear hk); (try clear hi); (try clear ho0); obtain ⟨Ao33, co33, eo33⟩ := Kd.R_slice HO341.out; subst eo33; obtain ⟨Ao34, co34, eo34⟩ := Kd.R_slice HO344.out; subst eo34) | ((with_reducible refine gate_callee (f := 18) rfl ?_); refine goesL_ (some 33) rfl rfl Tryd.func18 (by kernel_rfl) rfl #[.slice Ao33 t339.length co33, .slice Ao34 t342.length co34] rfl (by (try simp only [List.map_toArray, List.map_cons, List.map_nil]); first | done | rfl | (simp only [List.length_drop, List.length_take]; rfl)) ?_; (with_reducible refine (kauditref26_SameInts.calls k1 _ _ t339 _ _ t342 true _ ?side1 ?side2 ?side3 ?side4 A27.out).mono ?_); (case side1 => repeat (first | exact (Kd.R_reads' HO341.out).2.2 | (with_reducible refine Kd.C_alloc ?_ _) | (with_reducible refine Kd.C_drewN ?_ _) | (with_reducible refine Kd.C_drew ?_))); (case side2 => exact (Kd.R_reads' HO341.out).2.1); (case side3 => repeat (first | exact (Kd.R_reads' HO344.out).2.2 | (with_reducible refine Kd.C_alloc ?_ _) | (with_reducible refine Kd.C_drewN ?_ _) | (with_reducible refine Kd.C_drew ?_))); (case side4 => exact (Kd.R_reads' HO344.out).2.1); rintro e w' ⟨rfl, ⟨nd, rfl⟩⟩; refine ⟨_, rfl, ?_⟩) | (go_at_call 16; (with_reducible refine (kauditlaw26_begun.calls k1  t346 _ ?side1 A29.out).mono ?_); (case side1 => exact TabOk.below HT.out (by repeat (first | (with_reducible first | exact HB.out | apply below_alloc | apply pw_below_drewN | apply below_drew1 | refine below_set ?_ (IsS54.ge HI319.out)) | exact HB.out))); rintro e w35 ⟨rfl, hb⟩; have n0_ := Aside0.mk (Kd.R_below (by (with_reducible repeat (first | apply Kd.R_alloc | apply Kd.R_drewN | apply Kd.R_drew)); exact HO_6.out) hb); have n1_ := Aside0.mk (Kd.R_below (by (with_reducible repeat (first | apply Kd.R_alloc | apply Kd.R_drewN | apply Kd.R_drew)); exact HO341.out) hb); have n2_ := Aside0.mk (Kd.R_below (by (with_reducible repeat (first | apply Kd.R_alloc | apply Kd.R_drewN | apply Kd.R_drew)); exact HO344.out) hb); have n3_ := Aside0.mk (IsS54.below (by repeat (first | (with_reducible first | exact HI319.out | apply IsS54.alloc | apply IsS54.drewN | apply IsS54.drew | apply IsS54.set_1) | exact HI319.out)) hb); have n4_ := Aside0.mk (below_step (by repeat (first | (with_reducible first | exact HB.out | apply below_alloc | apply pw_below_drewN | apply below_drew1 | refine below_set ?_ (IsS54.ge HI319.out)) | exact HB.out)) hb); clear HO_6; clear HO341; clear HO344; clear HI319; clear HB; have HO_6 := n0_; have HO341 := n1_; have HO344 := n2_; have HI319 := n3_; have HB := n4_; clear n0_ n1_ n2_ n3_ n4_; (try clear hb); (try clear hb2); (try clear hk); (try clear hi)))
            go_ret
            exact ⟨by first | rfl | (simp [errW_none, errW_some] <;> rfl) | (simp [*, errW_none, errW_some] <;> rfl), by repeat (first | (with_reducible first | exact HB.out | apply below_alloc | apply pw_below_drewN | apply below_drew1 | refine below_set ?_ (IsS54.ge HI319.out)) | exact HB.out)⟩
          · replace c28 := Bool.eq_false_iff.mpr c28
            subst c28
            have H1 : (some false) = some r := by rw [if_neg (show ¬ (false = true) by decide)] at H; exact H
            clear H
            have H := H1
            clear H1
            obtain rfl := Option.some.inj H
            obtain ⟨Ao36, co36, eo36⟩ := Kd.R_slice HO_6.out
            subst eo36
            go_wp2_with (first | ((with_reducible refine gate_callee (f := 29) rfl ?_); refine goesL_ (some 30) rfl rfl Tryd.func29 (by kernel_rfl) rfl #[.slice Ao36 x6_1.length co36] rfl (by (try simp only [List.map_toArray, List.map_cons, List.map_nil]); first | done | rfl | (simp only [List.length_drop, List.length_take]; rfl)) ?_; (with_reducible refine (rotate_Numbers.calls k1 _ _ x6_1 t339 _ ?side1 ?side2 A25.out).mono ?_); (case side1 => repeat (first | exact (Kd.R_reads' HO_6.out).2.2 | (with_reducible refine Kd.C_alloc ?_ _) | (with_reducible refine Kd.C_drewN ?_ _) | (with_reducible refine Kd.C_drew ?_))); (case side2 => exact (Kd.R_reads' HO_6.out).2.1); rintro e w37 ⟨v340, rfl, ho0, hb⟩; refine ⟨_, rfl, ?_⟩; have n0_ := Aside0.mk (Kd.R_below (by (with_reducible repeat (first | apply Kd.R_alloc | apply Kd.R_drewN | apply Kd.R_drew)); exact HO_6.out) hb); have n1_ := Aside0.mk (Kd.R_lower ho0 (below_size (by repeat (first | (with_reducible first | exact HB.out | apply below_alloc | apply pw_below_drewN | apply below_drew1 | refine below_set ?_ (IsS54.ge HI319.out)) | exact HB.out)))); have n2_ := Aside0.mk (IsS54.below (by repeat (first | (with_reducible first | exact HI319.out | apply IsS54.alloc | apply IsS54.drewN | apply IsS54.drew | apply IsS54.set_1) | exact HI319.out)) hb); have n3_ := Aside0.mk (below_step (by repeat (first | (with_reducible first | exact HB.out | apply below_alloc | apply pw_below_drewN | apply below_drew1 | refine below_set ?_ (IsS54.ge HI319.out)) | exact HB.out)) hb); clear HO_6; clear HI319; clear HB; have HO_6 := n0_; have HO341 := n1_; have HI319 := n2_; have HB := n3_; clear n0_ n1_ n2_ n3_; (try clear hb); (try clear hb2); (try clear hk); (try clear hi); (try clear ho0)) | ((with_reducible refine gate_callee (f := 30) rfl ?_); refine goesL_ (some 32) rfl rfl Tryd.func30 (by kernel_rfl) rfl #[.slice Ao36 x6_1.length co36] rfl (by (try simp only [List.map_toArray, List.map_cons, List.map_nil]); first | done | rfl | (simp only [List.length_drop, List.length_take]; rfl)) ?_; (with_reducible refine (kauditref26_Numbers.calls k1 _ _ x6_1 t342 _ ?side1 ?side2 A26.out).mono ?_); (case side1 => repeat (first | exact (Kd.R_reads' HO_6.out).2.2 | (with_reducible refine Kd.C_alloc ?_ _) | (with_reducible refine Kd.C_drewN ?_ _) | (with_reducible refine Kd.C_drew ?_))); (case side2 => exact (Kd.R_reads' HO_6.out).2.1); rintro e w38 ⟨v343, rfl, ho0, hb⟩; refine ⟨_, rfl, ?_⟩; have n0_ := Aside0.mk (Kd.R_below (by (with_reducible repeat (first | apply Kd.R_alloc | apply Kd.R_drewN | apply Kd.R_drew)); exact HO_6.out) hb); have n1_ := Aside0.mk (Kd.R_elder' (by (with_reducible repeat (first | apply Kd.R_alloc | apply Kd.R_drewN | apply Kd.R_drew)); exact HO341.out) (Kd.R_base ho0) hb); have n2_ := Aside0.mk (Kd.R_lower (Kd.R_new' ho0 (Kd.R_lt (by (with_reducible repeat (first | apply Kd.R_alloc | apply Kd.R_drewN | apply Kd.R_drew)); exact HO341.out))) (below_size (by repeat (first | (with_reducible first | exact HB.out | apply below_alloc | apply pw_below_drewN | apply below_drew1 | refine below_set ?_ (IsS54.ge HI319.out)) | exact HB.out)))); have n3_ := Aside0.mk (IsS54.below (by repeat (first | (with_reducible first | exact HI319.out | apply IsS54.alloc | apply IsS54.drewN | apply IsS54.drew | apply IsS54.set_1) | exact HI319.out)) hb); have n4_ := Aside0.mk (below_step (by repeat (first | (with_reducible first | exact HB.out | apply below_alloc | apply pw_below_drewN | apply below_drew1 | refine below_set ?_ (IsS54.ge HI319.out)) | exact HB.out)) hb); clear HO_6; clear HO341; clear HI319; clear HB; have HO_6 := n0_; have HO341 := n1_; have HO344 := n2_; have HI319 := n3_; have HB := n4_; clear n0_ n1_ n2_ n3_ n4_; (try clear hb); (try clear hb2); (try clear hk); (try clear hi); (try clear ho0); obtain ⟨Ao39, co39, eo39⟩ := Kd.R_slice HO341.out; subst eo39; obtain ⟨Ao40, co40, eo40⟩ := Kd.R_slice HO344.out; subst eo40) | ((with_reducible refine gate_callee (f := 18) rfl ?_); refine goesL_ (some 33) rfl rfl Tryd.func18 (by kernel_rfl) rfl #[.slice Ao39 t339.length co39, .slice Ao40 t342.length co40] rfl (by (try simp only [List.map_toArray, List.map_cons, List.map_nil]); first | done | rfl | (simp only [List.length_drop, List.length_take]; rfl)) ?_; (with_reducible refine (kauditref26_SameInts.calls k1 _ _ t339 _ _ t342 false _ ?side1 ?side2 ?side3 ?side4 A27.out).mono ?_); (case side1 => repeat (first | exact (Kd.R_reads' HO341.out).2.2 | (with_reducible refine Kd.C_alloc ?_ _) | (with_reducible refine Kd.C_drewN ?_ _) | (with_reducible refine Kd.C_drew ?_))); (case side2 => exact (Kd.R_reads' HO341.out).2.1); (case side3 => repeat (first | exact (Kd.R_reads' HO344.out).2.2 | (with_reducible refine Kd.C_alloc ?_ _) | (with_reducible refine Kd.C_drewN ?_ _) | (with_reducible refine Kd.C_drew ?_))); (case side4 => exact (Kd.R_reads' HO344.out).2.1); rintro e w' ⟨rfl, ⟨nd, rfl⟩⟩; refine ⟨_, rfl, ?_⟩))
            go_ret
            exact ⟨by first | rfl | (simp [errW_none, errW_some] <;> rfl) | (simp [*, errW_none, errW_some] <;> rfl), by repeat (first | (with_reducible first | exact HB.out | apply below_alloc | apply pw_below_drewN | apply below_drew1 | refine below_set ?_ (IsS54.ge HI319.out)) | exact HB.out)⟩
  · rw [if_neg c4] at H
    exact absurd H (by simp)

end Go.Proofs.YtadjaakmpjhdhaaDoor.Q
