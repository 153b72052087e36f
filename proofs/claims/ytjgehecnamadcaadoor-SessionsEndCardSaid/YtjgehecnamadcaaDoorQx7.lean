-- Printed by px.py: a changed copy of the kit's printer, with contracts of this session's own in it. Not trusted: Lean checks it.
import Derived.Test.YtjgehecnamadcaaDoorQx0
import Derived.Test.YtjgehecnamadcaaDoorQx1
import Derived.Test.YtjgehecnamadcaaDoorQx4
import Derived.Test.YtjgehecnamadcaaDoorQx5
import Derived.Test.YtjgehecnamadcaaDoorQx6
namespace Go.Proofs.YtjgehecnamadcaaDoor.Q
open Go.RowKit Go.Proofs.YtjgehecnamadcaaDoorW.PrintWords Go.Proofs.YtjgehecnamadcaaDoorW.PrintLast Go.Proofs.YtjgehecnamadcaaDoorW.PrintMore
attribute [local go_sem] max2_int min2_int max_two min_two max_three min_three max_four min_four   -- for this text's walks alone
set_option linter.unusedVariables false
set_option linter.unusedSimpArgs false

/-! ### kauditlaw41_SessionsEnd: function 3 -/
mutual
def kauditlaw41_SessionsEnd.l0 : Nat → List (S34) → List (S31) → Int → Int → Option (Bool)
  | 0, _, _, _, _ => none
  | k + 1, x3, x14, x15, x16 => if x16 < x15 then (if 0 ≤ x16 then (if x16 < (x14.length : Int) then (kauditlaw41_SessionsEnd.l1 k x3 x14 x15 x16 ((rd_T31 x14 x16).f8) (((rd_T31 x14 x16).f8).length : Int) 0 ((rd_T31 x14 x16).f0) ((rd_T31 x14 x16).f1) ((rd_T31 x14 x16).f2) ((rd_T31 x14 x16).f3) ((rd_T31 x14 x16).f4) ((rd_T31 x14 x16).f5) ((rd_T31 x14 x16).f6) ((rd_T31 x14 x16).f7) ((rd_T31 x14 x16).f8)) else (none)) else (none)) else ((sessions_Of.f k x3 1 true).bind fun t543 => (kauditlaw41_SessionsEnd.l2 k t543 (t543.length : Int) 0))
def kauditlaw41_SessionsEnd.l1 : Nat → List (S34) → List (S31) → Int → Int → List Int → Int → Int → Int → Int → Int → Int → Int → Int → Int → List Int → List Int → Option (Bool)
  | 0, _, _, _, _, _, _, _, _, _, _, _, _, _, _, _, _ => none
  | k + 1, x3, x14, x15, x16, x21, x22, x23, x532000, x532001, x532002, x532003, x532004, x532005, x532006, x532007, x532008 => if x23 < x22 then (if 0 ≤ x23 then (if x23 < (x21.length : Int) then ((kauditlaw41_act.f 100 (⟨#[101, 120, 105, 116]⟩ : ByteArray) (rd x21 x23) x532000 0 0 0 (⟨#[121, 101, 115]⟩ : ByteArray)).bind fun bt533 => (if x3.length < 2513169434916 then (kauditlaw41_SessionsEnd.l1 k (x3 ++ [(⟨bt533.1, bt533.2.1, bt533.2.2.1, bt533.2.2.2.1, bt533.2.2.2.2⟩ : S34)]) x14 x15 x16 x21 x22 (wrap64 (x23 + 1)) x532000 x532001 x532002 x532003 x532004 x532005 x532006 x532007 x532008) else (none))) else (none)) else (none)) else (kauditlaw41_SessionsEnd.l0 k x3 x14 x15 (wrap64 (x16 + 1)))
def kauditlaw41_SessionsEnd.l2 : Nat → List (S31) → Int → Int → Option (Bool)
  | 0, _, _, _ => none
  | k + 1, x37, x38, x39 => if x39 < x38 then (if 0 ≤ x39 then (if x39 < (x37.length : Int) then (if ((rd_T31 x37 x39).f6) = 2 then (kauditlaw41_SessionsEnd.l2 k x37 x38 (wrap64 (x39 + 1))) else (some false)) else (none)) else (none)) else ((kauditlaw41_begun.f k).bind fun t548 => (some t548))
end
def kauditlaw41_SessionsEnd.g (k : Nat) (l0 : List Int) : Option (Bool) := (kauditmill_New.f l0 300).bind fun bt520 => ((kauditlaw41_events.f k bt520.1 bt520.2).bind fun bt523 => ((sessions_Of.f k bt523.1 1 false).bind fun t527 => (kauditlaw41_SessionsEnd.l0 k bt523.1 t527 (t527.length : Int) 0)))
set_option maxHeartbeats 8000000 in
set_option maxRecDepth 100000 in
theorem kauditlaw41_SessionsEnd.callsT (k : Nat) (A0 : Option Addr) (c0 : Nat) (l0 : List Int) (r : Bool) (w : World) (hT : TabOk w) (hr0 : Kd.C (Kd.int .u8) w A0 l0.length l0) (hc0 : l0.length ≤ c0) (h : kauditlaw41_SessionsEnd.g k l0 = some r) (hr_ : Aside0 (r = true)) :
    Calls Tryd.prog 3 #[.slice A0 l0.length c0] w fun e w' => e = .returned (.bool r) ∧ Below w.heap.size w w' := by
  have hu31 := Tryd.underlying31
  have HT := Aside0.mk hT
  clear hT
  have HR0 := Aside0.mk hr0
  have HC0 := Aside0.mk hc0
  clear hr0 hc0
  have HB := Aside0.mk (Below.refl w.heap.size w)
  have H : ((kauditmill_New.f l0 300).bind fun bt520 => ((kauditlaw41_events.f k bt520.1 bt520.2).bind fun bt523 => ((sessions_Of.f k bt523.1 1 false).bind fun t527 => (kauditlaw41_SessionsEnd.l0 k bt523.1 t527 (t527.length : Int) 0)))) = some r := h
  clear h
  replace H := Option.bind_eq_some_iff.mp H
  obtain ⟨⟨t520, t521⟩, A20, H⟩ := H
  replace H : ((kauditlaw41_events.f k t520 t521).bind fun bt523 => ((sessions_Of.f k bt523.1 1 false).bind fun t527 => (kauditlaw41_SessionsEnd.l0 k bt523.1 t527 (t527.length : Int) 0))) = some r := H
  have A2 := Aside0.mk A20
  clear A20
  replace H := Option.bind_eq_some_iff.mp H
  obtain ⟨⟨t523, t526⟩, A30, H⟩ := H
  replace H : ((sessions_Of.f k t523 1 false).bind fun t527 => (kauditlaw41_SessionsEnd.l0 k t523 t527 (t527.length : Int) 0)) = some r := H
  have A3 := Aside0.mk A30
  clear A30
  replace H := Option.bind_eq_some_iff.mp H
  obtain ⟨t527, A40, H⟩ := H
  replace H : (kauditlaw41_SessionsEnd.l0 k t523 t527 (t527.length : Int) 0) = some r := H
  have A4 := Aside0.mk A40
  clear A40
  have H' := Aside0.mk H
  clear H
  go_enter Tryd.func3, Tryd.ntmps3
  go_wp2_with (first | ((with_reducible refine gate_callee (f := 7) rfl ?_); refine goesL_ (some 11) rfl rfl Tryd.func7 (by kernel_rfl) rfl #[.slice A0 l0.length c0, .int .i64 300] rfl (by (try simp only [List.map_toArray, List.map_cons, List.map_nil]); first | done | rfl | (simp only [List.length_drop, List.length_take]; rfl)) ?_; (with_reducible refine (kauditmill_New.calls _ _ l0 300 t520 t521 w _ ?side1 ?side2 ?side3 A2.out).mono ?_); (case side1 => repeat (first | (with_reducible first | exact HB.out | apply below_alloc | apply pw_below_drewN | apply below_drew1) | exact HB.out)); (case side2 => exact HR0.out); (case side3 => exact HC0.out); rintro e w5 ⟨g522, rfl, hi, hb, hb2⟩; refine ⟨_, rfl, ?_⟩; have n0_ := Aside0.mk (hb); have n1_ := Aside0.mk (hi); clear HB; have HB := n0_; have HI522 := n1_; clear n0_ n1_; (try clear hb); (try clear hb2); (try clear hk); (try clear hi)) | ((with_reducible refine gate_callee (f := 6) rfl ?_); refine goesL_ (some 12) rfl rfl Tryd.func6 (by kernel_rfl) rfl #[.pointer (some ⟨g522, 0, none⟩)] rfl (by (try simp only [List.map_toArray, List.map_cons, List.map_nil]); first | done | rfl | (simp only [List.length_drop, List.length_take]; rfl)) ?_; (with_reducible refine (kauditlaw41_events.calls k g522 t520 t521 t523 t526 w _ ?side1 ?side2 A3.out).mono ?_); (case side1 => repeat (first | (with_reducible first | exact HI522.out | apply IsS51.alloc | apply IsS51.drewN | apply IsS51.drew | apply IsS51.set_1) | exact HI522.out)); (case side2 => repeat (first | (with_reducible first | exact HB.out | apply below_alloc | apply pw_below_drewN | apply below_drew1 | refine below_set ?_ (IsS51.ge HI522.out)) | exact HB.out)); rintro e w6 ⟨v524, rfl, ho0, hi, hb, hk⟩; refine ⟨_, rfl, ?_⟩; have n0_ := Aside0.mk (Kd.N_lower (Kd.N_mono (ok' := fun k_ => k_ ≠ g522) ho0 (fun k_ hk_ => (IsS51.fresh (by repeat (first | (with_reducible first | exact HI522.out | apply IsS51.alloc | apply IsS51.drewN | apply IsS51.drew | apply IsS51.set_1) | exact HI522.out)) k_ hk_))) (below_size (by repeat (first | (with_reducible first | exact HB.out | apply below_alloc | apply pw_below_drewN | apply below_drew1 | refine below_set ?_ (IsS51.ge HI522.out)) | exact HB.out)))); have n1_ := Aside0.mk (hb); have n2_ := Aside0.mk (hi); clear HB; clear HI522; have HO525 := n0_; have HB := n1_; have HI522 := n2_; clear n0_ n1_ n2_; (try clear hb); (try clear hb2); (try clear hk); (try clear hi); (try clear ho0); obtain ⟨Ao7, co7, eo7⟩ := Kd.N_slice HO525.out; subst eo7) | ((with_reducible refine gate_callee (f := 8) rfl ?_); refine goesL_ (some 14) rfl rfl Tryd.func8 (by kernel_rfl) rfl #[.slice Ao7 t523.length co7, .int .i64 1, .bool false] rfl (by (try simp only [List.map_toArray, List.map_cons, List.map_nil]); first | done | rfl | (simp only [List.length_drop, List.length_take]; rfl)) ?_; (with_reducible refine (sessions_Of.calls k _ _ t523 1 false t527 _ ?side1 ?side2 A4.out).mono ?_); (case side1 => repeat (first | exact (Kd.N_reads' HO525.out).2.2 | (with_reducible refine Kd.C_alloc ?_ _) | (with_reducible refine Kd.C_drewN ?_ _) | (with_reducible refine Kd.C_drew ?_))); (case side2 => exact (Kd.N_reads' HO525.out).2.1); rintro e w8 ⟨v528, rfl, ho0, hb⟩; refine ⟨_, rfl, ?_⟩; have n0_ := Aside0.mk (Kd.N_elder' (by (with_reducible repeat (first | apply Kd.N_alloc | apply Kd.N_drewN | apply Kd.N_drew)); exact HO525.out) (by first | exact Kd.N_base ho0 | exact Kd.S_base ho0) hb); have n1_ := Aside0.mk (Kd.N_lower (Kd.N_mono (ok' := fun k_ => some k_ ≠ (.slice Ao7 t523.length co7 : Value).ownBlock ∧ k_ ≠ g522) (Kd.S_N (Kd.S_bound ho0)) (fun k_ hk_ => ⟨(Kd.fresh' (Kd.N_lt (by (with_reducible repeat (first | apply Kd.N_alloc | apply Kd.N_drewN | apply Kd.N_drew)); exact HO525.out)) k_ hk_.2.1), (IsS51.fresh (by repeat (first | (with_reducible first | exact HI522.out | apply IsS51.alloc | apply IsS51.drewN | apply IsS51.drew | apply IsS51.set_1) | exact HI522.out)) k_ hk_.2.1)⟩)) (below_size (by repeat (first | (with_reducible first | exact HB.out | apply below_alloc | apply pw_below_drewN | apply below_drew1 | refine below_set ?_ (IsS51.ge HI522.out)) | exact HB.out)))); have n2_ := Aside0.mk (IsS51.below (by repeat (first | (with_reducible first | exact HI522.out | apply IsS51.alloc | apply IsS51.drewN | apply IsS51.drew | apply IsS51.set_1) | exact HI522.out)) hb); have n3_ := Aside0.mk (below_step (by repeat (first | (with_reducible first | exact HB.out | apply below_alloc | apply pw_below_drewN | apply below_drew1 | refine below_set ?_ (IsS51.ge HI522.out)) | exact HB.out)) hb); clear HO525; clear HI522; clear HB; have HO525 := n0_; have HO529 := n1_; have HI522 := n2_; have HB := n3_; clear n0_ n1_ n2_ n3_; (try clear hb); (try clear hb2); (try clear hk); (try clear hi); (try clear ho0); obtain ⟨Ao9, co9, eo9⟩ := Kd.N_slice HO529.out; subst eo9))
  go_loopg [3, 16] k (fun kq v3 v16 w' => ∃ (x3_1 : List (S34)) (x16_1 : Int), v16 = .int .i64 x16_1 ∧ Aside0 (kauditlaw41_SessionsEnd.l0 kq x3_1 t527 (t527.length : Int) x16_1 = some r) ∧ Aside0 (kq ≤ k) ∧ Aside0 (Kd.N k34 34 w' w.heap.size (fun k_ => some k_ ≠ ((.slice Ao9 t527.length co9) : Value).ownBlock) v3 x3_1) ∧ Aside0 (Kd.N k31 31 w' w.heap.size (fun k_ => some k_ ≠ (v3 : Value).ownBlock) (.slice Ao9 t527.length co9) t527) ∧ Aside0 (Below w.heap.size w w'))
  case atStart => exact ⟨(t523), (0), (by first | rfl | (simp; done) | (simp [*]; done)), H', ⟨Nat.le_refl _⟩, ⟨by (with_reducible repeat (first | apply Kd.N_alloc | apply Kd.N_drewN | apply Kd.N_drew)); exact Kd.N_mono HO525.out (fun _ hk => hk.2)⟩, ⟨by (with_reducible repeat (first | apply Kd.N_alloc | apply Kd.N_drewN | apply Kd.N_drew)); exact Kd.N_mono HO529.out (fun _ hk => hk.1)⟩, ⟨by repeat (first | (with_reducible first | exact HB.out | apply below_alloc | apply pw_below_drewN | apply below_drew1 | refine below_set ?_ (IsS51.ge HI522.out)) | exact HB.out)⟩⟩
  case round =>
    clear H'
    try clear p2
    try clear c3
    try clear c6
    try clear c7
    try clear c8
    obtain ⟨x3_1, x16_1, rfl, HA, HK1, HO_3, HO_14, HB⟩ := hrel
    cases gk with
    | zero => exact absurd HA.out (by simp [kauditlaw41_SessionsEnd.l0])
    | succ k1 =>
      have H := HA.out
      clear HA
      simp only [kauditlaw41_SessionsEnd.l0] at H
      by_cases c10 : x16_1 < (t527.length : Int)
      · rw [if_pos c10] at H
        have c10b0 : decide (x16_1 < (t527.length : Int)) = true := decide_eq_true c10
        clear c10
        by_cases c11 : 0 ≤ x16_1
        · rw [if_pos c11] at H
          have c11b0 : decide (0 ≤ x16_1) = true := decide_eq_true c11
          clear c11
          by_cases c12 : x16_1 < (t527.length : Int)
          · rw [if_pos c12] at H
            have c12b0 : decide (x16_1 < (t527.length : Int)) = true := decide_eq_true c12
            clear c12
            have H' := Aside0.mk H
            clear H
            have p530 : 0 ≤ (x16_1 : Int) := of_decide_eq_true (by first | (with_reducible assumption) | assumption)
            have q530 : x16_1 < (t527.length : Int) := of_decide_eq_true (by first | (with_reducible assumption) | assumption)
            obtain ⟨ad530, A530_7, c530_7, A530_8, c530_8, e530, hx530_0, hx530_1, hx530_2, hx530_3, hx530_4, hx530_5, hx530_6, hx530_7, hx530_8, hl530_7, hi530_7, hl530_8, hi530_8⟩ := at_T31 (Kd.N_reads' HO_14.out).2.2 x16_1 p530 q530
            cases e530
            obtain ⟨ce530, hce530, hMe530, hcc530⟩ := Kd.N_get HO_14.out z31 x16_1 p530 (by first | exact q530 | exact of_decide_eq_true (by first | (with_reducible assumption) | assumption) | (have e_ := (Kd.N_reads' HO_14.out).1; omega))
            obtain ⟨ua530_7, uc530_7, ua530_8, uc530_8, rfl, ul530_7, ge530_7, ul530_8, ge530_8⟩ := k31_openF hMe530
            have hv530_7 := hcc530 7 _ rfl
            rw [add_field _ _ 7 (by omega)] at hv530_7
            replace hv530_7 := Option.some.inj (hv530_7.symm.trans hx530_7)
            injection hv530_7 with hva_ hvn_ hvc_
            rw [hva_] at ge530_7
            rw [hvc_] at ul530_7
            have HL530_7 := Aside0.mk (show Kd.V (Kd.int .i64) 3 _ w.heap.size _ _ ((rd_T31 t527 x16_1).f7) from Kd.V_mk ul530_7 ge530_7)
            clear hva_ hvn_ hvc_ ge530_7 ul530_7
            have hv530_8 := hcc530 8 _ rfl
            rw [add_field _ _ 8 (by omega)] at hv530_8
            replace hv530_8 := Option.some.inj (hv530_8.symm.trans hx530_8)
            injection hv530_8 with hva_ hvn_ hvc_
            rw [hva_] at ge530_8
            rw [hvc_] at ul530_8
            have HL530_8 := Aside0.mk (show Kd.V (Kd.int .i64) 3 _ w.heap.size _ _ ((rd_T31 t527 x16_1).f8) from Kd.V_mk ul530_8 ge530_8)
            clear hva_ hvn_ hvc_ ge530_8 ul530_8
            clear hcc530 hce530
            have HR530_7 := Aside0.mk hi530_7
            have HC530_7 := Aside0.mk hl530_7
            clear hi530_7 hl530_7
            have HR530_8 := Aside0.mk hi530_8
            have HC530_8 := Aside0.mk hl530_8
            clear hi530_8 hl530_8
            replace p530 := eq_true p530
            replace q530 := eq_true q530
            go_wp2_with (first | ((with_reducible refine gate_dst (N := 5) rfl ?_); refine box_event ?hg (N := 5) ?hd (cs := #[.int .i64 0, .int .i64 0, .int .i64 0, .int .i64 0, .int .i64 0, .int .i64 0, .int .i64 0, .slice none 0 0, .slice none 0 0]) (t := 31) ?hr ?_; (case hd => rfl); (case hg => rfl); (case hr => first | (go_simp; done) | (go_simp; rfl)); intro gb531 hg w13 hbox hb; have n0_ := Aside0.mk (Kd.N_below (Kd.N_elderB (by (with_reducible repeat (first | apply Kd.N_alloc | apply Kd.N_drewN | apply Kd.N_drew)); exact HO_3.out) gb531 (Nat.le_of_eq hg.symm)) hb); have n1_ := Aside0.mk (Kd.N_below (Kd.N_elderB (by (with_reducible repeat (first | apply Kd.N_alloc | apply Kd.N_drewN | apply Kd.N_drew)); exact HO_14.out) gb531 (Nat.le_of_eq hg.symm)) hb); have n2_ := Aside0.mk (Kd.V_below (Kd.V_elderB (by (with_reducible repeat (first | apply Kd.V_alloc | apply Kd.V_drewN | apply Kd.V_drew)); exact HL530_7.out) gb531 (Nat.le_of_eq hg.symm)) hb); have n3_ := Aside0.mk (Kd.V_below (Kd.V_elderB (by (with_reducible repeat (first | apply Kd.V_alloc | apply Kd.V_drewN | apply Kd.V_drew)); exact HL530_8.out) gb531 (Nat.le_of_eq hg.symm)) hb); have n4_ := Aside0.mk (Kd.C_below (by repeat (first | (with_reducible exact HR530_7.out) | (with_reducible refine Kd.C_alloc ?_ _) | (with_reducible refine Kd.C_drewN ?_ _) | (with_reducible refine Kd.C_drew ?_) | exact HR530_7.out)) hb); have n5_ := Aside0.mk (Kd.C_below (by repeat (first | (with_reducible exact HR530_8.out) | (with_reducible refine Kd.C_alloc ?_ _) | (with_reducible refine Kd.C_drewN ?_ _) | (with_reducible refine Kd.C_drew ?_) | exact HR530_8.out)) hb); have n6_ := Aside0.mk (below_step (by repeat (first | (with_reducible first | exact HB.out | apply below_alloc | apply pw_below_drewN | apply below_drew1) | exact HB.out)) hb); have n7_ := Aside0.mk (hbox); have n8_ := Aside0.mk ((by rw [hg]; exact (below_size (by repeat (first | (with_reducible first | exact HB.out | apply below_alloc | apply pw_below_drewN | apply below_drew1) | exact HB.out))) : w.heap.size ≤ gb531)); have n9_ := Aside0.mk ((by rw [hg]; exact (below_size (by repeat (first | (with_reducible first | exact HB.out | apply below_alloc | apply pw_below_drewN | apply below_drew1) | exact HB.out))) : w.heap.size ≤ gb531)); clear HO_3; clear HO_14; clear HL530_7; clear HL530_8; clear HR530_7; clear HR530_8; clear HB; have HO_3 := n0_; have HO_14 := n1_; have HL530_7 := n2_; have HL530_8 := n3_; have HR530_7 := n4_; have HR530_8 := n5_; have HB := n6_; have BK531 := n7_; have GW531 := n8_; have GE531 := n9_; clear n0_ n1_ n2_ n3_ n4_ n5_ n6_ n7_ n8_ n9_; clear hb hbox hg; have hcz14_0 : w13.cell? ⟨gb531, 0, none⟩ = some (.int .i64 0) := (blk_cell BK531.out 0).trans rfl; have hcz14_1 : w13.cell? ⟨gb531, 1, none⟩ = some (.int .i64 0) := (blk_cell BK531.out 1).trans rfl; have hcz14_2 : w13.cell? ⟨gb531, 2, none⟩ = some (.int .i64 0) := (blk_cell BK531.out 2).trans rfl; have hcz14_3 : w13.cell? ⟨gb531, 3, none⟩ = some (.int .i64 0) := (blk_cell BK531.out 3).trans rfl; have hcz14_4 : w13.cell? ⟨gb531, 4, none⟩ = some (.int .i64 0) := (blk_cell BK531.out 4).trans rfl; have hcz14_5 : w13.cell? ⟨gb531, 5, none⟩ = some (.int .i64 0) := (blk_cell BK531.out 5).trans rfl; have hcz14_6 : w13.cell? ⟨gb531, 6, none⟩ = some (.int .i64 0) := (blk_cell BK531.out 6).trans rfl; have hcz14_7 : w13.cell? ⟨gb531, 7, none⟩ = some (.slice none 0 0) := (blk_cell BK531.out 7).trans rfl; have hcz14_8 : w13.cell? ⟨gb531, 8, none⟩ = some (.slice none 0 0) := (blk_cell BK531.out 8).trans rfl; have hfz14_0 := blk_frozen BK531.out 0; have hfz14_1 := blk_frozen BK531.out 1; have hfz14_2 := blk_frozen BK531.out 2; have hfz14_3 := blk_frozen BK531.out 3; have hfz14_4 := blk_frozen BK531.out 4; have hfz14_5 := blk_frozen BK531.out 5; have hfz14_6 := blk_frozen BK531.out 6; have hfz14_7 := blk_frozen BK531.out 7; have hfz14_8 := blk_frozen BK531.out 8))
            go_loopg [3, 23] k1 (fun kq v3 v23 w' => ∃ (x3_2 : List (S34)) (x23_2 : Int), v23 = .int .i64 x23_2 ∧ Aside0 (kauditlaw41_SessionsEnd.l1 kq x3_2 t527 (t527.length : Int) x16_1 ((rd_T31 t527 x16_1).f8) (((rd_T31 t527 x16_1).f8).length : Int) x23_2 ((rd_T31 t527 x16_1).f0) ((rd_T31 t527 x16_1).f1) ((rd_T31 t527 x16_1).f2) ((rd_T31 t527 x16_1).f3) ((rd_T31 t527 x16_1).f4) ((rd_T31 t527 x16_1).f5) ((rd_T31 t527 x16_1).f6) ((rd_T31 t527 x16_1).f7) ((rd_T31 t527 x16_1).f8) = some r) ∧ Aside0 (kq ≤ k1) ∧ Aside0 (Kd.N k34 34 w' w.heap.size (fun k_ => some k_ ≠ ((.slice (some ad530) t527.length co9) : Value).ownBlock ∧ k_ ≠ gb531) v3 x3_2) ∧ Aside0 (Kd.N k31 31 w' w.heap.size (fun k_ => some k_ ≠ (v3 : Value).ownBlock ∧ k_ ≠ gb531) (.slice (some ad530) t527.length co9) t527) ∧ Aside0 (Kd.V (Kd.int .i64) 3 w' w.heap.size (fun k_ => some k_ ≠ (v3 : Value).ownBlock ∧ some k_ ≠ ((.slice (some ad530) t527.length co9) : Value).ownBlock ∧ k_ ≠ gb531) (.slice A530_8 ((rd_T31 t527 x16_1).f8).length c530_8) ((rd_T31 t527 x16_1).f8)) ∧ Aside0 (Kd.V (Kd.int .i64) 3 w' w.heap.size (fun k_ => some k_ ≠ (v3 : Value).ownBlock ∧ some k_ ≠ ((.slice (some ad530) t527.length co9) : Value).ownBlock ∧ k_ ≠ gb531) (.slice A530_7 ((rd_T31 t527 x16_1).f7).length c530_7) ((rd_T31 t527 x16_1).f7)) ∧ Aside0 (Kd.V (Kd.int .i64) 3 w' w.heap.size (fun k_ => some k_ ≠ (v3 : Value).ownBlock ∧ some k_ ≠ ((.slice (some ad530) t527.length co9) : Value).ownBlock ∧ k_ ≠ gb531) (.slice A530_8 ((rd_T31 t527 x16_1).f8).length c530_8) ((rd_T31 t527 x16_1).f8)) ∧ Aside0 (w'.heap[gb531]? = some (.cells #[.int .i64 ((rd_T31 t527 x16_1).f0), .int .i64 ((rd_T31 t527 x16_1).f1), .int .i64 ((rd_T31 t527 x16_1).f2), .int .i64 ((rd_T31 t527 x16_1).f3), .int .i64 ((rd_T31 t527 x16_1).f4), .int .i64 ((rd_T31 t527 x16_1).f5), .int .i64 ((rd_T31 t527 x16_1).f6), (.slice A530_7 ((rd_T31 t527 x16_1).f7).length c530_7), (.slice A530_8 ((rd_T31 t527 x16_1).f8).length c530_8)] 31 (0, 0))) ∧ Aside0 (Below w.heap.size w w'))
            case atStart => exact ⟨(x3_1), (0), (by first | rfl | (simp; done) | (simp [*]; done)), H', ⟨Nat.le_refl _⟩, ⟨by (with_reducible repeat (first | apply Kd.N_alloc | apply Kd.N_drewN | apply Kd.N_drew)); exact Kd.N_mono (Kd.N_far (p := ⟨gb531, 8, none⟩) (Kd.N_far (p := ⟨gb531, 7, none⟩) (Kd.N_far (p := ⟨gb531, 6, none⟩) (Kd.N_far (p := ⟨gb531, 5, none⟩) (Kd.N_far (p := ⟨gb531, 4, none⟩) (Kd.N_far (p := ⟨gb531, 3, none⟩) (Kd.N_far (p := ⟨gb531, 2, none⟩) (Kd.N_far (p := ⟨gb531, 1, none⟩) (Kd.N_far (p := ⟨gb531, 0, none⟩) (Kd.N_mono HO_3.out (fun k_ hk => (⟨hk, hk.2⟩ : _ ∧ k_ ≠ gb531))) (fun _ hk => hk.2) (.int .i64 ((rd_T31 t527 x16_1).f0))) (fun _ hk => hk.2) (.int .i64 ((rd_T31 t527 x16_1).f1))) (fun _ hk => hk.2) (.int .i64 ((rd_T31 t527 x16_1).f2))) (fun _ hk => hk.2) (.int .i64 ((rd_T31 t527 x16_1).f3))) (fun _ hk => hk.2) (.int .i64 ((rd_T31 t527 x16_1).f4))) (fun _ hk => hk.2) (.int .i64 ((rd_T31 t527 x16_1).f5))) (fun _ hk => hk.2) (.int .i64 ((rd_T31 t527 x16_1).f6))) (fun _ hk => hk.2) (.slice A530_7 ((rd_T31 t527 x16_1).f7).length c530_7)) (fun _ hk => hk.2) (.slice A530_8 ((rd_T31 t527 x16_1).f8).length c530_8)) (fun _ hk => ⟨hk.1.1, hk.1.2⟩)⟩, ⟨by (with_reducible repeat (first | apply Kd.N_alloc | apply Kd.N_drewN | apply Kd.N_drew)); exact Kd.N_mono (Kd.N_far (p := ⟨gb531, 8, none⟩) (Kd.N_far (p := ⟨gb531, 7, none⟩) (Kd.N_far (p := ⟨gb531, 6, none⟩) (Kd.N_far (p := ⟨gb531, 5, none⟩) (Kd.N_far (p := ⟨gb531, 4, none⟩) (Kd.N_far (p := ⟨gb531, 3, none⟩) (Kd.N_far (p := ⟨gb531, 2, none⟩) (Kd.N_far (p := ⟨gb531, 1, none⟩) (Kd.N_far (p := ⟨gb531, 0, none⟩) (Kd.N_mono HO_14.out (fun k_ hk => (⟨hk, hk.2⟩ : _ ∧ k_ ≠ gb531))) (fun _ hk => hk.2) (.int .i64 ((rd_T31 t527 x16_1).f0))) (fun _ hk => hk.2) (.int .i64 ((rd_T31 t527 x16_1).f1))) (fun _ hk => hk.2) (.int .i64 ((rd_T31 t527 x16_1).f2))) (fun _ hk => hk.2) (.int .i64 ((rd_T31 t527 x16_1).f3))) (fun _ hk => hk.2) (.int .i64 ((rd_T31 t527 x16_1).f4))) (fun _ hk => hk.2) (.int .i64 ((rd_T31 t527 x16_1).f5))) (fun _ hk => hk.2) (.int .i64 ((rd_T31 t527 x16_1).f6))) (fun _ hk => hk.2) (.slice A530_7 ((rd_T31 t527 x16_1).f7).length c530_7)) (fun _ hk => hk.2) (.slice A530_8 ((rd_T31 t527 x16_1).f8).length c530_8)) (fun _ hk => ⟨hk.1.1, hk.1.2⟩)⟩, ⟨by (with_reducible repeat (first | apply Kd.V_alloc | apply Kd.V_drewN | apply Kd.V_drew)); exact Kd.V_mono (Kd.V_far (p := ⟨gb531, 8, none⟩) (Kd.V_far (p := ⟨gb531, 7, none⟩) (Kd.V_far (p := ⟨gb531, 6, none⟩) (Kd.V_far (p := ⟨gb531, 5, none⟩) (Kd.V_far (p := ⟨gb531, 4, none⟩) (Kd.V_far (p := ⟨gb531, 3, none⟩) (Kd.V_far (p := ⟨gb531, 2, none⟩) (Kd.V_far (p := ⟨gb531, 1, none⟩) (Kd.V_far (p := ⟨gb531, 0, none⟩) (Kd.V_mono HL530_8.out (fun k_ hk => (⟨hk, hk.2⟩ : _ ∧ k_ ≠ gb531))) (fun _ hk => hk.2) (.int .i64 ((rd_T31 t527 x16_1).f0))) (fun _ hk => hk.2) (.int .i64 ((rd_T31 t527 x16_1).f1))) (fun _ hk => hk.2) (.int .i64 ((rd_T31 t527 x16_1).f2))) (fun _ hk => hk.2) (.int .i64 ((rd_T31 t527 x16_1).f3))) (fun _ hk => hk.2) (.int .i64 ((rd_T31 t527 x16_1).f4))) (fun _ hk => hk.2) (.int .i64 ((rd_T31 t527 x16_1).f5))) (fun _ hk => hk.2) (.int .i64 ((rd_T31 t527 x16_1).f6))) (fun _ hk => hk.2) (.slice A530_7 ((rd_T31 t527 x16_1).f7).length c530_7)) (fun _ hk => hk.2) (.slice A530_8 ((rd_T31 t527 x16_1).f8).length c530_8)) (fun _ hk => ⟨hk.1.1.1, ⟨hk.1.1.2, hk.1.2⟩⟩)⟩, ⟨by (with_reducible repeat (first | apply Kd.V_alloc | apply Kd.V_drewN | apply Kd.V_drew)); exact Kd.V_mono (Kd.V_far (p := ⟨gb531, 8, none⟩) (Kd.V_far (p := ⟨gb531, 7, none⟩) (Kd.V_far (p := ⟨gb531, 6, none⟩) (Kd.V_far (p := ⟨gb531, 5, none⟩) (Kd.V_far (p := ⟨gb531, 4, none⟩) (Kd.V_far (p := ⟨gb531, 3, none⟩) (Kd.V_far (p := ⟨gb531, 2, none⟩) (Kd.V_far (p := ⟨gb531, 1, none⟩) (Kd.V_far (p := ⟨gb531, 0, none⟩) (Kd.V_mono HL530_7.out (fun k_ hk => (⟨hk, hk.2⟩ : _ ∧ k_ ≠ gb531))) (fun _ hk => hk.2) (.int .i64 ((rd_T31 t527 x16_1).f0))) (fun _ hk => hk.2) (.int .i64 ((rd_T31 t527 x16_1).f1))) (fun _ hk => hk.2) (.int .i64 ((rd_T31 t527 x16_1).f2))) (fun _ hk => hk.2) (.int .i64 ((rd_T31 t527 x16_1).f3))) (fun _ hk => hk.2) (.int .i64 ((rd_T31 t527 x16_1).f4))) (fun _ hk => hk.2) (.int .i64 ((rd_T31 t527 x16_1).f5))) (fun _ hk => hk.2) (.int .i64 ((rd_T31 t527 x16_1).f6))) (fun _ hk => hk.2) (.slice A530_7 ((rd_T31 t527 x16_1).f7).length c530_7)) (fun _ hk => hk.2) (.slice A530_8 ((rd_T31 t527 x16_1).f8).length c530_8)) (fun _ hk => ⟨hk.1.1.1, ⟨hk.1.1.2, hk.1.2⟩⟩)⟩, ⟨by (with_reducible repeat (first | apply Kd.V_alloc | apply Kd.V_drewN | apply Kd.V_drew)); exact Kd.V_mono (Kd.V_far (p := ⟨gb531, 8, none⟩) (Kd.V_far (p := ⟨gb531, 7, none⟩) (Kd.V_far (p := ⟨gb531, 6, none⟩) (Kd.V_far (p := ⟨gb531, 5, none⟩) (Kd.V_far (p := ⟨gb531, 4, none⟩) (Kd.V_far (p := ⟨gb531, 3, none⟩) (Kd.V_far (p := ⟨gb531, 2, none⟩) (Kd.V_far (p := ⟨gb531, 1, none⟩) (Kd.V_far (p := ⟨gb531, 0, none⟩) (Kd.V_mono HL530_8.out (fun k_ hk => (⟨hk, hk.2⟩ : _ ∧ k_ ≠ gb531))) (fun _ hk => hk.2) (.int .i64 ((rd_T31 t527 x16_1).f0))) (fun _ hk => hk.2) (.int .i64 ((rd_T31 t527 x16_1).f1))) (fun _ hk => hk.2) (.int .i64 ((rd_T31 t527 x16_1).f2))) (fun _ hk => hk.2) (.int .i64 ((rd_T31 t527 x16_1).f3))) (fun _ hk => hk.2) (.int .i64 ((rd_T31 t527 x16_1).f4))) (fun _ hk => hk.2) (.int .i64 ((rd_T31 t527 x16_1).f5))) (fun _ hk => hk.2) (.int .i64 ((rd_T31 t527 x16_1).f6))) (fun _ hk => hk.2) (.slice A530_7 ((rd_T31 t527 x16_1).f7).length c530_7)) (fun _ hk => hk.2) (.slice A530_8 ((rd_T31 t527 x16_1).f8).length c530_8)) (fun _ hk => ⟨hk.1.1.1, ⟨hk.1.1.2, hk.1.2⟩⟩)⟩, ⟨by (with_reducible repeat (first | refine blk_drewN ?_ _ | refine blk_drew ?_ | refine blk_alloc ?_ _)); refine blk_put (cs := #[.int .i64 ((rd_T31 t527 x16_1).f0), .int .i64 ((rd_T31 t527 x16_1).f1), .int .i64 ((rd_T31 t527 x16_1).f2), .int .i64 ((rd_T31 t527 x16_1).f3), .int .i64 ((rd_T31 t527 x16_1).f4), .int .i64 ((rd_T31 t527 x16_1).f5), .int .i64 ((rd_T31 t527 x16_1).f6), .slice A530_7 ((rd_T31 t527 x16_1).f7).length c530_7, .slice none 0 0]) ?_ 8 _ rfl; (with_reducible repeat (first | refine blk_drewN ?_ _ | refine blk_drew ?_ | refine blk_alloc ?_ _)); refine blk_put (cs := #[.int .i64 ((rd_T31 t527 x16_1).f0), .int .i64 ((rd_T31 t527 x16_1).f1), .int .i64 ((rd_T31 t527 x16_1).f2), .int .i64 ((rd_T31 t527 x16_1).f3), .int .i64 ((rd_T31 t527 x16_1).f4), .int .i64 ((rd_T31 t527 x16_1).f5), .int .i64 ((rd_T31 t527 x16_1).f6), .slice none 0 0, .slice none 0 0]) ?_ 7 _ rfl; (with_reducible repeat (first | refine blk_drewN ?_ _ | refine blk_drew ?_ | refine blk_alloc ?_ _)); refine blk_put (cs := #[.int .i64 ((rd_T31 t527 x16_1).f0), .int .i64 ((rd_T31 t527 x16_1).f1), .int .i64 ((rd_T31 t527 x16_1).f2), .int .i64 ((rd_T31 t527 x16_1).f3), .int .i64 ((rd_T31 t527 x16_1).f4), .int .i64 ((rd_T31 t527 x16_1).f5), .int .i64 0, .slice none 0 0, .slice none 0 0]) ?_ 6 _ rfl; (with_reducible repeat (first | refine blk_drewN ?_ _ | refine blk_drew ?_ | refine blk_alloc ?_ _)); refine blk_put (cs := #[.int .i64 ((rd_T31 t527 x16_1).f0), .int .i64 ((rd_T31 t527 x16_1).f1), .int .i64 ((rd_T31 t527 x16_1).f2), .int .i64 ((rd_T31 t527 x16_1).f3), .int .i64 ((rd_T31 t527 x16_1).f4), .int .i64 0, .int .i64 0, .slice none 0 0, .slice none 0 0]) ?_ 5 _ rfl; (with_reducible repeat (first | refine blk_drewN ?_ _ | refine blk_drew ?_ | refine blk_alloc ?_ _)); refine blk_put (cs := #[.int .i64 ((rd_T31 t527 x16_1).f0), .int .i64 ((rd_T31 t527 x16_1).f1), .int .i64 ((rd_T31 t527 x16_1).f2), .int .i64 ((rd_T31 t527 x16_1).f3), .int .i64 0, .int .i64 0, .int .i64 0, .slice none 0 0, .slice none 0 0]) ?_ 4 _ rfl; (with_reducible repeat (first | refine blk_drewN ?_ _ | refine blk_drew ?_ | refine blk_alloc ?_ _)); refine blk_put (cs := #[.int .i64 ((rd_T31 t527 x16_1).f0), .int .i64 ((rd_T31 t527 x16_1).f1), .int .i64 ((rd_T31 t527 x16_1).f2), .int .i64 0, .int .i64 0, .int .i64 0, .int .i64 0, .slice none 0 0, .slice none 0 0]) ?_ 3 _ rfl; (with_reducible repeat (first | refine blk_drewN ?_ _ | refine blk_drew ?_ | refine blk_alloc ?_ _)); refine blk_put (cs := #[.int .i64 ((rd_T31 t527 x16_1).f0), .int .i64 ((rd_T31 t527 x16_1).f1), .int .i64 0, .int .i64 0, .int .i64 0, .int .i64 0, .int .i64 0, .slice none 0 0, .slice none 0 0]) ?_ 2 _ rfl; (with_reducible repeat (first | refine blk_drewN ?_ _ | refine blk_drew ?_ | refine blk_alloc ?_ _)); refine blk_put (cs := #[.int .i64 ((rd_T31 t527 x16_1).f0), .int .i64 0, .int .i64 0, .int .i64 0, .int .i64 0, .int .i64 0, .int .i64 0, .slice none 0 0, .slice none 0 0]) ?_ 1 _ rfl; (with_reducible repeat (first | refine blk_drewN ?_ _ | refine blk_drew ?_ | refine blk_alloc ?_ _)); refine blk_put (cs := #[.int .i64 0, .int .i64 0, .int .i64 0, .int .i64 0, .int .i64 0, .int .i64 0, .int .i64 0, .slice none 0 0, .slice none 0 0]) ?_ 0 _ rfl; (with_reducible repeat (first | refine blk_drewN ?_ _ | refine blk_drew ?_ | refine blk_alloc ?_ _)); exact BK531.out⟩, ⟨by repeat (first | (with_reducible first | exact HB.out | apply below_alloc | apply pw_below_drewN | apply below_drew1 | refine below_set ?_ GE531.out) | exact HB.out)⟩⟩
            case round =>
              clear H'
              try clear c1
              try clear p2
              try clear c3
              try clear c5
              try clear p5
              try clear q5
              try clear hx5
              try clear c6
              try clear c7
              try clear c8
              try clear c10
              try clear c10b0
              try clear c11
              try clear c11b0
              try clear c12
              try clear c12b0
              try clear hcz14_0
              try clear hcz14_1
              try clear hcz14_2
              try clear hcz14_3
              try clear hcz14_4
              try clear hcz14_5
              try clear hcz14_6
              try clear hcz14_7
              try clear hcz14_8
              try clear hfz14_0
              try clear hfz14_1
              try clear hfz14_2
              try clear hfz14_3
              try clear hfz14_4
              try clear hfz14_5
              try clear hfz14_6
              try clear hfz14_7
              try clear hfz14_8
              try clear hx530_0
              try clear hx530_1
              try clear hx530_2
              try clear hx530_3
              try clear hx530_4
              try clear hx530_5
              try clear hx530_6
              try clear hx530_7
              try clear hx530_8
              try clear p2
              try clear p530
              try clear q530
              obtain ⟨x3_2, x23_2, rfl, HA, HK2, HO_3, HO_14, HO_21, HO_532007, HO_532008, BK531, HB⟩ := hrel
              cases gk with
              | zero => exact absurd HA.out (by simp [kauditlaw41_SessionsEnd.l1])
              | succ k2 =>
                have H := HA.out
                clear HA
                simp only [kauditlaw41_SessionsEnd.l1] at H
                by_cases c15 : x23_2 < (((rd_T31 t527 x16_1).f8).length : Int)
                · rw [if_pos c15] at H
                  have c15b0 : decide (x23_2 < (((rd_T31 t527 x16_1).f8).length : Int)) = true := decide_eq_true c15
                  clear c15
                  by_cases c16 : 0 ≤ x23_2
                  · rw [if_pos c16] at H
                    have c16b0 : decide (0 ≤ x23_2) = true := decide_eq_true c16
                    clear c16
                    by_cases c17 : x23_2 < (((rd_T31 t527 x16_1).f8).length : Int)
                    · rw [if_pos c17] at H
                      have c17b0 : decide (x23_2 < (((rd_T31 t527 x16_1).f8).length : Int)) = true := decide_eq_true c17
                      clear c17
                      replace H := Option.bind_eq_some_iff.mp H
                      obtain ⟨⟨t533, t534, t535, t536, t539⟩, A180, H⟩ := H
                      replace H : (if x3_2.length < 2513169434916 then (kauditlaw41_SessionsEnd.l1 k2 (x3_2 ++ [(⟨t533, t534, t535, t536, t539⟩ : S34)]) t527 (t527.length : Int) x16_1 ((rd_T31 t527 x16_1).f8) (((rd_T31 t527 x16_1).f8).length : Int) (wrap64 (x23_2 + 1)) ((rd_T31 t527 x16_1).f0) ((rd_T31 t527 x16_1).f1) ((rd_T31 t527 x16_1).f2) ((rd_T31 t527 x16_1).f3) ((rd_T31 t527 x16_1).f4) ((rd_T31 t527 x16_1).f5) ((rd_T31 t527 x16_1).f6) ((rd_T31 t527 x16_1).f7) ((rd_T31 t527 x16_1).f8)) else (none)) = some r := H
                      have A18 := Aside0.mk A180
                      clear A180
                      by_cases c19 : x3_2.length < 2513169434916
                      · rw [if_pos c19] at H
                        have LMc19 := Aside0.mk c19
                        clear c19
                        obtain ⟨y540, hy540⟩ : ∃ y_ : List (S34), y_ = (x3_2 ++ [(⟨t533, t534, t535, t536, t539⟩ : S34)]) := ⟨_, rfl⟩
                        replace H : (kauditlaw41_SessionsEnd.l1 k2 y540 t527 (t527.length : Int) x16_1 ((rd_T31 t527 x16_1).f8) (((rd_T31 t527 x16_1).f8).length : Int) (wrap64 (x23_2 + 1)) ((rd_T31 t527 x16_1).f0) ((rd_T31 t527 x16_1).f1) ((rd_T31 t527 x16_1).f2) ((rd_T31 t527 x16_1).f3) ((rd_T31 t527 x16_1).f4) ((rd_T31 t527 x16_1).f5) ((rd_T31 t527 x16_1).f6) ((rd_T31 t527 x16_1).f7) ((rd_T31 t527 x16_1).f8)) = some r := by first | (rw [hy540]; with_reducible exact H) | (have H2_ := (Option.bind_some _ _).symm.trans H; rw [hy540]; with_reducible exact H2_) | (have H2_ := (Option.bind_some _ _).symm.trans H; with_reducible exact H2_) | with_reducible exact H | (rw [hy540]; exact H) | exact H
                        have Ny540 := Aside0.mk hy540
                        clear hy540
                        have H' := Aside0.mk H
                        clear H
                        have p532 : 0 ≤ (x23_2 : Int) := of_decide_eq_true (by first | (with_reducible assumption) | assumption)
                        have q532 : x23_2 < (((rd_T31 t527 x16_1).f8).length : Int) := of_decide_eq_true (by first | (with_reducible assumption) | assumption)
                        obtain ⟨ad532, e532, hx532_0⟩ := Kd.at_int (Kd.V_reads' HO_21.out).2.2 x23_2 p532 q532
                        cases e532
                        replace p532 := eq_true p532
                        replace q532 := eq_true q532
                        have hcz20_0 : wr.cell? ⟨gb531, 0, none⟩ = some (.int .i64 ((rd_T31 t527 x16_1).f0)) := (blk_cell BK531.out 0).trans rfl
                        have hcz20_1 : wr.cell? ⟨gb531, 1, none⟩ = some (.int .i64 ((rd_T31 t527 x16_1).f1)) := (blk_cell BK531.out 1).trans rfl
                        have hcz20_2 : wr.cell? ⟨gb531, 2, none⟩ = some (.int .i64 ((rd_T31 t527 x16_1).f2)) := (blk_cell BK531.out 2).trans rfl
                        have hcz20_3 : wr.cell? ⟨gb531, 3, none⟩ = some (.int .i64 ((rd_T31 t527 x16_1).f3)) := (blk_cell BK531.out 3).trans rfl
                        have hcz20_4 : wr.cell? ⟨gb531, 4, none⟩ = some (.int .i64 ((rd_T31 t527 x16_1).f4)) := (blk_cell BK531.out 4).trans rfl
                        have hcz20_5 : wr.cell? ⟨gb531, 5, none⟩ = some (.int .i64 ((rd_T31 t527 x16_1).f5)) := (blk_cell BK531.out 5).trans rfl
                        have hcz20_6 : wr.cell? ⟨gb531, 6, none⟩ = some (.int .i64 ((rd_T31 t527 x16_1).f6)) := (blk_cell BK531.out 6).trans rfl
                        have hcz20_7 : wr.cell? ⟨gb531, 7, none⟩ = some (.slice A530_7 ((rd_T31 t527 x16_1).f7).length c530_7) := (blk_cell BK531.out 7).trans rfl
                        have hcz20_8 : wr.cell? ⟨gb531, 8, none⟩ = some (.slice (some ad532) ((rd_T31 t527 x16_1).f8).length c530_8) := (blk_cell BK531.out 8).trans rfl
                        have hfz20_0 := blk_frozen BK531.out 0
                        have hfz20_1 := blk_frozen BK531.out 1
                        have hfz20_2 := blk_frozen BK531.out 2
                        have hfz20_3 := blk_frozen BK531.out 3
                        have hfz20_4 := blk_frozen BK531.out 4
                        have hfz20_5 := blk_frozen BK531.out 5
                        have hfz20_6 := blk_frozen BK531.out 6
                        have hfz20_7 := blk_frozen BK531.out 7
                        have hfz20_8 := blk_frozen BK531.out 8
                        go_wp2_with (first | ((with_reducible refine gate_callee (f := 9) rfl ?_); refine goesL_ (some 31) rfl rfl Tryd.func9 (by kernel_rfl) rfl #[.int .i64 100, .string (⟨#[101, 120, 105, 116]⟩ : ByteArray), .int .i64 (rd ((rd_T31 t527 x16_1).f8) x23_2), .int .i64 ((rd_T31 t527 x16_1).f0), .int .i64 0, .int .i64 0, .int .i64 0, .string (⟨#[121, 101, 115]⟩ : ByteArray)] rfl (by (try simp only [List.map_toArray, List.map_cons, List.map_nil]); first | done | rfl | (simp only [List.length_drop, List.length_take]; rfl)) ?_; (with_reducible refine (kauditlaw41_act.calls 100 (⟨#[101, 120, 105, 116]⟩ : ByteArray) (rd ((rd_T31 t527 x16_1).f8) x23_2) ((rd_T31 t527 x16_1).f0) 0 0 0 (⟨#[121, 101, 115]⟩ : ByteArray) t533 t534 t535 t536 t539 _ A18.out).mono ?_); rintro e w21 ⟨v537, rfl, ho0, hb⟩; refine ⟨_, rfl, ?_⟩; have n0_ := Aside0.mk (Kd.N_elder' (by (with_reducible repeat (first | apply Kd.N_alloc | apply Kd.N_drewN | apply Kd.N_drew)); exact HO_3.out) (by first | exact Kd.N_base ho0 | exact Kd.S_base ho0) hb); have n1_ := Aside0.mk (Kd.N_elder' (by (with_reducible repeat (first | apply Kd.N_alloc | apply Kd.N_drewN | apply Kd.N_drew)); exact HO_14.out) (by first | exact Kd.N_base ho0 | exact Kd.S_base ho0) hb); have n2_ := Aside0.mk (Kd.V_elder' (by (with_reducible repeat (first | apply Kd.V_alloc | apply Kd.V_drewN | apply Kd.V_drew)); exact HO_21.out) (by first | exact Kd.N_base ho0 | exact Kd.S_base ho0) hb); have n3_ := Aside0.mk (Kd.V_elder' (by (with_reducible repeat (first | apply Kd.V_alloc | apply Kd.V_drewN | apply Kd.V_drew)); exact HO_532007.out) (by first | exact Kd.N_base ho0 | exact Kd.S_base ho0) hb); have n4_ := Aside0.mk (Kd.V_elder' (by (with_reducible repeat (first | apply Kd.V_alloc | apply Kd.V_drewN | apply Kd.V_drew)); exact HO_532008.out) (by first | exact Kd.N_base ho0 | exact Kd.S_base ho0) hb); have n5_ := Aside0.mk (Kd.N_lower (Kd.N_mono (ok' := fun k_ => some k_ ≠ (u3 : Value).ownBlock ∧ some k_ ≠ (.slice (some ad530) t527.length co9 : Value).ownBlock ∧ k_ ≠ gb531) ho0 (fun k_ hk_ => ⟨(Kd.fresh' (Kd.N_lt (by (with_reducible repeat (first | apply Kd.N_alloc | apply Kd.N_drewN | apply Kd.N_drew)); exact HO_3.out)) k_ hk_), (Kd.fresh' (Kd.N_lt (by (with_reducible repeat (first | apply Kd.N_alloc | apply Kd.N_drewN | apply Kd.N_drew)); exact HO_14.out)) k_ hk_), (Kd.freshB (g := gb531) (o := .cells #[.int .i64 ((rd_T31 t527 x16_1).f0), .int .i64 ((rd_T31 t527 x16_1).f1), .int .i64 ((rd_T31 t527 x16_1).f2), .int .i64 ((rd_T31 t527 x16_1).f3), .int .i64 ((rd_T31 t527 x16_1).f4), .int .i64 ((rd_T31 t527 x16_1).f5), .int .i64 ((rd_T31 t527 x16_1).f6), .slice A530_7 ((rd_T31 t527 x16_1).f7).length c530_7, .slice (some ad532) ((rd_T31 t527 x16_1).f8).length c530_8] 31 (0, 0)) (by (with_reducible repeat (first | refine blk_drewN ?_ _ | refine blk_drew ?_ | refine blk_alloc ?_ _)); exact BK531.out) k_ hk_)⟩)) (below_size (by repeat (first | (with_reducible first | exact HB.out | apply below_alloc | apply pw_below_drewN | apply below_drew1 | refine below_set ?_ GE531.out) | exact HB.out)))); have n6_ := Aside0.mk (blk_below (g := gb531) (o := .cells #[.int .i64 ((rd_T31 t527 x16_1).f0), .int .i64 ((rd_T31 t527 x16_1).f1), .int .i64 ((rd_T31 t527 x16_1).f2), .int .i64 ((rd_T31 t527 x16_1).f3), .int .i64 ((rd_T31 t527 x16_1).f4), .int .i64 ((rd_T31 t527 x16_1).f5), .int .i64 ((rd_T31 t527 x16_1).f6), .slice A530_7 ((rd_T31 t527 x16_1).f7).length c530_7, .slice (some ad532) ((rd_T31 t527 x16_1).f8).length c530_8] 31 (0, 0)) (by (with_reducible repeat (first | refine blk_drewN ?_ _ | refine blk_drew ?_ | refine blk_alloc ?_ _)); exact BK531.out) hb); have n7_ := Aside0.mk (below_step (by repeat (first | (with_reducible first | exact HB.out | apply below_alloc | apply pw_below_drewN | apply below_drew1 | refine below_set ?_ GE531.out) | exact HB.out)) hb); clear HO_3; clear HO_14; clear HO_21; clear HO_532007; clear HO_532008; clear BK531; clear HB; have HO_3 := n0_; have HO_14 := n1_; have HO_21 := n2_; have HO_532007 := n3_; have HO_532008 := n4_; have HO538 := n5_; have BK531 := n6_; have HB := n7_; clear n0_ n1_ n2_ n3_ n4_ n5_ n6_ n7_; (try clear hb); (try clear hb2); (try clear hk); (try clear hi); (try clear ho0); obtain ⟨Ao23, co23, eo23⟩ := Kd.N_slice HO538.out; subst eo23) | ((with_reducible refine gate_builtin (b := .append) (xs := #[.tmp 27, .tmp 32]) rfl ?_); at_builtin; refine Kd.N_append k34 (w0 := w) w.heap.size rfl (.tmp 27) (.tmp 32) 23 34 (.agg #[(.int .i64 0), (.int .i64 0), (.int .i64 0), (.slice none 0 0), (.bool false)]) 56 rfl Tryd.underlying23 info34 rfl (by decide) (by omega) u3 x3_2 (⟨t533, t534, t535, t536, t539⟩ : S34) [.int .i64 t533, .int .i64 t534, .int .i64 t535, .slice Ao23 t536.length co23, .bool t539] (fun k_ => some k_ ≠ (.slice (some ad530) t527.length co9 : Value).ownBlock ∧ k_ ≠ gb531) (fun k_ => ((fun k_ => some k_ ≠ (.slice (some ad530) t527.length co9 : Value).ownBlock ∧ k_ ≠ gb531)) k_ ∧ some k_ ≠ (u3 : Value).ownBlock) rfl rfl ?aP (fun _ hk => hk) ?aF ?aO ?aB ?aS ?aL ?_; (case aP => exact (k34_mkF _ _ (⟨t533, t534, t535, t536, t539⟩ : S34) (Kd.N_reads' (Kd.N_mono (ok' := (fun k_ => ((fun k_ => some k_ ≠ (.slice (some ad530) t527.length co9 : Value).ownBlock ∧ k_ ≠ gb531)) k_ ∧ some k_ ≠ (u3 : Value).ownBlock)) (HO538.out) (fun k_ hk => ⟨⟨hk.2.1, hk.2.2⟩, hk.1⟩))).2.1 (Kd.N_F (Kd.N_mono (ok' := (fun k_ => ((fun k_ => some k_ ≠ (.slice (some ad530) t527.length co9 : Value).ownBlock ∧ k_ ≠ gb531)) k_ ∧ some k_ ≠ (u3 : Value).ownBlock)) (HO538.out) (fun k_ hk => ⟨⟨hk.2.1, hk.2.2⟩, hk.1⟩))))); (case aB => exact (by repeat (first | (with_reducible first | exact HB.out | apply below_alloc | apply pw_below_drewN | apply below_drew1 | refine below_set ?_ GE531.out) | exact HB.out))); (case aF => exact (fun k_ hk => ⟨Kd.fresh' (Kd.N_lt (by (with_reducible repeat (first | apply Kd.N_alloc | apply Kd.N_drewN | apply Kd.N_drew)); exact HO_14.out)) k_ hk, Kd.freshB (g := gb531) (o := .cells #[.int .i64 ((rd_T31 t527 x16_1).f0), .int .i64 ((rd_T31 t527 x16_1).f1), .int .i64 ((rd_T31 t527 x16_1).f2), .int .i64 ((rd_T31 t527 x16_1).f3), .int .i64 ((rd_T31 t527 x16_1).f4), .int .i64 ((rd_T31 t527 x16_1).f5), .int .i64 ((rd_T31 t527 x16_1).f6), .slice A530_7 ((rd_T31 t527 x16_1).f7).length c530_7, .slice (some ad532) ((rd_T31 t527 x16_1).f8).length c530_8] 31 (0, 0)) (by (with_reducible repeat (first | refine blk_drewN ?_ _ | refine blk_drew ?_ | refine blk_alloc ?_ _)); exact BK531.out) k_ hk⟩)); (case aO => exact (by (with_reducible repeat (first | apply Kd.N_alloc | apply Kd.N_drewN | apply Kd.N_drew)); exact Kd.N_mono HO_3.out (fun _ hk => ⟨hk.1.1, hk.1.2⟩))); (case aS => exact (below_size (by repeat (first | (with_reducible first | exact HB.out | apply below_alloc | apply pw_below_drewN | apply below_drew1 | refine below_set ?_ GE531.out) | exact HB.out)))); (case aL => have := LMc19.out; omega); intro v541 w22 ho hb hg hat; rw [← Ny540.out] at ho; have n0_ := Aside0.mk (Kd.N_afterv (ok := (fun k_ => some k_ ≠ (.slice Ao23 t536.length co23 : Value).ownBlock ∧ k_ ≠ gb531)) (by (with_reducible repeat (first | apply Kd.N_alloc | apply Kd.N_drewN | apply Kd.N_drew)); exact Kd.N_mono HO_14.out (fun _ hk => ⟨⟨hk.2, hk.1.2⟩, hk.1.1⟩)) hg hat); have n1_ := Aside0.mk (Kd.V_afterv (ok := (fun k_ => some k_ ≠ (.slice (some ad530) t527.length co9 : Value).ownBlock ∧ some k_ ≠ (.slice Ao23 t536.length co23 : Value).ownBlock ∧ k_ ≠ gb531)) (by (with_reducible repeat (first | apply Kd.V_alloc | apply Kd.V_drewN | apply Kd.V_drew)); exact Kd.V_mono HO_21.out (fun _ hk => ⟨⟨hk.1.2.1, ⟨hk.2, hk.1.2.2⟩⟩, hk.1.1⟩)) hg hat); have n2_ := Aside0.mk (Kd.V_afterv (ok := (fun k_ => some k_ ≠ (.slice (some ad530) t527.length co9 : Value).ownBlock ∧ some k_ ≠ (.slice Ao23 t536.length co23 : Value).ownBlock ∧ k_ ≠ gb531)) (by (with_reducible repeat (first | apply Kd.V_alloc | apply Kd.V_drewN | apply Kd.V_drew)); exact Kd.V_mono HO_532007.out (fun _ hk => ⟨⟨hk.1.2.1, ⟨hk.2, hk.1.2.2⟩⟩, hk.1.1⟩)) hg hat); have n3_ := Aside0.mk (Kd.V_afterv (ok := (fun k_ => some k_ ≠ (.slice (some ad530) t527.length co9 : Value).ownBlock ∧ some k_ ≠ (.slice Ao23 t536.length co23 : Value).ownBlock ∧ k_ ≠ gb531)) (by (with_reducible repeat (first | apply Kd.V_alloc | apply Kd.V_drewN | apply Kd.V_drew)); exact Kd.V_mono HO_532008.out (fun _ hk => ⟨⟨hk.1.2.1, ⟨hk.2, hk.1.2.2⟩⟩, hk.1.1⟩)) hg hat); have n4_ := Aside0.mk (blk_grown (g := gb531) (o := .cells #[.int .i64 ((rd_T31 t527 x16_1).f0), .int .i64 ((rd_T31 t527 x16_1).f1), .int .i64 ((rd_T31 t527 x16_1).f2), .int .i64 ((rd_T31 t527 x16_1).f3), .int .i64 ((rd_T31 t527 x16_1).f4), .int .i64 ((rd_T31 t527 x16_1).f5), .int .i64 ((rd_T31 t527 x16_1).f6), .slice A530_7 ((rd_T31 t527 x16_1).f7).length c530_7, .slice (some ad532) ((rd_T31 t527 x16_1).f8).length c530_8] 31 (0, 0)) (by (with_reducible repeat (first | refine blk_drewN ?_ _ | refine blk_drew ?_ | refine blk_alloc ?_ _)); exact BK531.out) hg (Kd.N_ne HO_3.out BK531.out (by decide))); have n5_ := Aside0.mk (hb); have n6_ := Aside0.mk (ho); clear HO_14; clear HO_21; clear HO_532007; clear HO_532008; clear BK531; clear HB; clear HO_3; clear HO538; have HO_14 := n0_; have HO_21 := n1_; have HO_532007 := n2_; have HO_532008 := n3_; have BK531 := n4_; have HB := n5_; have HO542 := n6_; clear n0_ n1_ n2_ n3_ n4_ n5_ n6_; clear ho hb hg hat))
                        go_roundg k2
                        case measure => have := HK1.out; have := HK2.out; omega
                        case rel => exact ⟨(y540), (wrap64 (x23_2 + 1)), (by first | rfl | (simp; done) | (simp [*]; done)), H', ⟨by have := HK1.out; have := HK2.out; omega⟩, ⟨by (with_reducible repeat (first | apply Kd.N_alloc | apply Kd.N_drewN | apply Kd.N_drew)); exact HO542.out⟩, ⟨by (with_reducible repeat (first | apply Kd.N_alloc | apply Kd.N_drewN | apply Kd.N_drew)); exact Kd.N_mono HO_14.out (fun _ hk => ⟨hk.2, hk.1.2⟩)⟩, ⟨by (with_reducible repeat (first | apply Kd.V_alloc | apply Kd.V_drewN | apply Kd.V_drew)); exact Kd.V_mono HO_21.out (fun _ hk => ⟨hk.2, ⟨hk.1.1, hk.1.2.2⟩⟩)⟩, ⟨by (with_reducible repeat (first | apply Kd.V_alloc | apply Kd.V_drewN | apply Kd.V_drew)); exact Kd.V_mono HO_532007.out (fun _ hk => ⟨hk.2, ⟨hk.1.1, hk.1.2.2⟩⟩)⟩, ⟨by (with_reducible repeat (first | apply Kd.V_alloc | apply Kd.V_drewN | apply Kd.V_drew)); exact Kd.V_mono HO_532008.out (fun _ hk => ⟨hk.2, ⟨hk.1.1, hk.1.2.2⟩⟩)⟩, ⟨by (with_reducible repeat (first | refine blk_drewN ?_ _ | refine blk_drew ?_ | refine blk_alloc ?_ _)); exact BK531.out⟩, ⟨by repeat (first | (with_reducible first | exact HB.out | apply below_alloc | apply pw_below_drewN | apply below_drew1 | refine below_set ?_ GE531.out) | exact HB.out)⟩⟩
                      · rw [if_neg c19] at H
                        exact absurd H (by simp)
                    · rw [if_neg c17] at H
                      exact absurd H (by simp)
                  · rw [if_neg c16] at H
                    exact absurd H (by simp)
                · rw [if_neg c15] at H
                  have c15b0 : decide (x23_2 < (((rd_T31 t527 x16_1).f8).length : Int)) = false := decide_eq_false c15
                  clear c15
                  have H' := Aside0.mk H
                  clear H
                  go_wp2
                  go_roundg k2
                  case measure => have := HK1.out; have := HK2.out; omega
                  case rel => exact ⟨(x3_2), (wrap64 (x16_1 + 1)), (by first | rfl | (simp; done) | (simp [*]; done)), H', ⟨by have := HK1.out; have := HK2.out; omega⟩, ⟨by (with_reducible repeat (first | apply Kd.N_alloc | apply Kd.N_drewN | apply Kd.N_drew)); exact Kd.N_mono HO_3.out (fun _ hk => hk.1)⟩, ⟨by (with_reducible repeat (first | apply Kd.N_alloc | apply Kd.N_drewN | apply Kd.N_drew)); exact Kd.N_mono HO_14.out (fun _ hk => hk.1)⟩, ⟨by repeat (first | (with_reducible first | exact HB.out | apply below_alloc | apply pw_below_drewN | apply below_drew1 | refine below_set ?_ GE531.out) | exact HB.out)⟩⟩
          · rw [if_neg c12] at H
            exact absurd H (by simp)
        · rw [if_neg c11] at H
          exact absurd H (by simp)
      · rw [if_neg c10] at H
        have c10b0 : decide (x16_1 < (t527.length : Int)) = false := decide_eq_false c10
        clear c10
        replace H := Option.bind_eq_some_iff.mp H
        obtain ⟨t543, A240, H⟩ := H
        replace H : (kauditlaw41_SessionsEnd.l2 k1 t543 (t543.length : Int) 0) = some r := H
        have A24 := Aside0.mk A240
        clear A240
        have H' := Aside0.mk H
        clear H
        obtain ⟨Ao25, co25, eo25⟩ := Kd.N_slice HO_3.out
        subst eo25
        go_wp2_with (first | ((with_reducible refine gate_callee (f := 8) rfl ?_); refine goesL_ (some 37) rfl rfl Tryd.func8 (by kernel_rfl) rfl #[.slice Ao25 x3_1.length co25, .int .i64 1, .bool true] rfl (by (try simp only [List.map_toArray, List.map_cons, List.map_nil]); first | done | rfl | (simp only [List.length_drop, List.length_take]; rfl)) ?_; (with_reducible refine (sessions_Of.calls k1 _ _ x3_1 1 true t543 _ ?side1 ?side2 A24.out).mono ?_); (case side1 => repeat (first | exact (Kd.N_reads' HO_3.out).2.2 | (with_reducible refine Kd.C_alloc ?_ _) | (with_reducible refine Kd.C_drewN ?_ _) | (with_reducible refine Kd.C_drew ?_))); (case side2 => exact (Kd.N_reads' HO_3.out).2.1); rintro e w26 ⟨v544, rfl, ho0, hb⟩; refine ⟨_, rfl, ?_⟩; have n0_ := Aside0.mk (Kd.N_elder' (by (with_reducible repeat (first | apply Kd.N_alloc | apply Kd.N_drewN | apply Kd.N_drew)); exact HO_3.out) (by first | exact Kd.N_base ho0 | exact Kd.S_base ho0) hb); have n1_ := Aside0.mk (Kd.N_elder' (by (with_reducible repeat (first | apply Kd.N_alloc | apply Kd.N_drewN | apply Kd.N_drew)); exact HO_14.out) (by first | exact Kd.N_base ho0 | exact Kd.S_base ho0) hb); have n2_ := Aside0.mk (Kd.N_lower (Kd.N_mono (ok' := fun k_ => some k_ ≠ (.slice Ao25 x3_1.length co25 : Value).ownBlock ∧ some k_ ≠ (.slice Ao9 t527.length co9 : Value).ownBlock) (Kd.S_N (Kd.S_bound ho0)) (fun k_ hk_ => ⟨(Kd.fresh' (Kd.N_lt (by (with_reducible repeat (first | apply Kd.N_alloc | apply Kd.N_drewN | apply Kd.N_drew)); exact HO_3.out)) k_ hk_.2.1), (Kd.fresh' (Kd.N_lt (by (with_reducible repeat (first | apply Kd.N_alloc | apply Kd.N_drewN | apply Kd.N_drew)); exact HO_14.out)) k_ hk_.2.1)⟩)) (below_size (by repeat (first | (with_reducible first | exact HB.out | apply below_alloc | apply pw_below_drewN | apply below_drew1) | exact HB.out)))); have n3_ := Aside0.mk (below_step (by repeat (first | (with_reducible first | exact HB.out | apply below_alloc | apply pw_below_drewN | apply below_drew1) | exact HB.out)) hb); clear HO_3; clear HO_14; clear HB; have HO_3 := n0_; have HO_14 := n1_; have HO545 := n2_; have HB := n3_; clear n0_ n1_ n2_ n3_; (try clear hb); (try clear hb2); (try clear hk); (try clear hi); (try clear ho0); obtain ⟨Ao27, co27, eo27⟩ := Kd.N_slice HO545.out; subst eo27))
        go_loopg [39] k1 (fun kq v39 w' => ∃ (x39_2 : Int), v39 = .int .i64 x39_2 ∧ Aside0 (kauditlaw41_SessionsEnd.l2 kq t543 (t543.length : Int) x39_2 = some r) ∧ Aside0 (kq ≤ k1) ∧ Aside0 (Kd.N k31 31 w' w.heap.size (fun _ => True) (.slice Ao27 t543.length co27) t543) ∧ Aside0 (Below w.heap.size w w'))
        case atStart => exact ⟨(0), (by first | rfl | (simp; done) | (simp [*]; done)), H', ⟨Nat.le_refl _⟩, ⟨by (with_reducible repeat (first | apply Kd.N_alloc | apply Kd.N_drewN | apply Kd.N_drew)); exact Kd.N_mono HO545.out (fun _ hk => trivial)⟩, ⟨by repeat (first | (with_reducible first | exact HB.out | apply below_alloc | apply pw_below_drewN | apply below_drew1) | exact HB.out)⟩⟩
        case round =>
          clear H'
          try clear c1
          try clear p2
          try clear c3
          try clear c5
          try clear p5
          try clear q5
          try clear hx5
          try clear c6
          try clear p6
          try clear c7
          try clear c8
          try clear c9
          try clear c10
          try clear c10b0
          try clear c11
          try clear c11b0
          try clear c12
          try clear c12b0
          try clear c15
          try clear c15b0
          try clear c16
          try clear c16b0
          try clear c17
          try clear c17b0
          try clear c19
          try clear hcz14_0
          try clear hcz14_1
          try clear hcz14_2
          try clear hcz14_3
          try clear hcz14_4
          try clear hcz14_5
          try clear hcz14_6
          try clear hcz14_7
          try clear hcz14_8
          try clear hcz20_0
          try clear hcz20_1
          try clear hcz20_2
          try clear hcz20_3
          try clear hcz20_4
          try clear hcz20_5
          try clear hcz20_6
          try clear hcz20_7
          try clear hcz20_8
          try clear hfz14_0
          try clear hfz14_1
          try clear hfz14_2
          try clear hfz14_3
          try clear hfz14_4
          try clear hfz14_5
          try clear hfz14_6
          try clear hfz14_7
          try clear hfz14_8
          try clear hfz20_0
          try clear hfz20_1
          try clear hfz20_2
          try clear hfz20_3
          try clear hfz20_4
          try clear hfz20_5
          try clear hfz20_6
          try clear hfz20_7
          try clear hfz20_8
          try clear hx530_0
          try clear hx530_1
          try clear hx530_2
          try clear hx530_3
          try clear hx530_4
          try clear hx530_5
          try clear hx530_6
          try clear hx530_7
          try clear hx530_8
          try clear hx532_0
          try clear p2
          try clear p5
          try clear p530
          try clear p532
          try clear q5
          try clear q530
          try clear q532
          obtain ⟨x39_2, rfl, HA, HK2, HO_37, HB⟩ := hrel
          cases gk with
          | zero => exact absurd HA.out (by simp [kauditlaw41_SessionsEnd.l2])
          | succ k2 =>
            have H := HA.out
            clear HA
            simp only [kauditlaw41_SessionsEnd.l2] at H
            by_cases c28 : x39_2 < (t543.length : Int)
            · rw [if_pos c28] at H
              have c28b0 : decide (x39_2 < (t543.length : Int)) = true := decide_eq_true c28
              clear c28
              by_cases c29 : 0 ≤ x39_2
              · rw [if_pos c29] at H
                have c29b0 : decide (0 ≤ x39_2) = true := decide_eq_true c29
                clear c29
                by_cases c30 : x39_2 < (t543.length : Int)
                · rw [if_pos c30] at H
                  have c30b0 : decide (x39_2 < (t543.length : Int)) = true := decide_eq_true c30
                  clear c30
                  by_cases c31 : ((rd_T31 t543 x39_2).f6) = 2
                  · rw [if_pos c31] at H
                    have c31b0 : (((rd_T31 t543 x39_2).f6) == 2) = true := beq_iff_eq.mpr c31
                    have c31b1 : (((rd_T31 t543 x39_2).f6) != 2) = false := bne_eq_false_iff_eq.mpr c31
                    clear c31
                    have H' := Aside0.mk H
                    clear H
                    have p546 : 0 ≤ (x39_2 : Int) := of_decide_eq_true (by first | (with_reducible assumption) | assumption)
                    have q546 : x39_2 < (t543.length : Int) := of_decide_eq_true (by first | (with_reducible assumption) | assumption)
                    obtain ⟨ad546, A546_7, c546_7, A546_8, c546_8, e546, hx546_0, hx546_1, hx546_2, hx546_3, hx546_4, hx546_5, hx546_6, hx546_7, hx546_8, hl546_7, hi546_7, hl546_8, hi546_8⟩ := at_T31 (Kd.N_reads' HO_37.out).2.2 x39_2 p546 q546
                    cases e546
                    obtain ⟨ce546, hce546, hMe546, hcc546⟩ := Kd.N_get HO_37.out z31 x39_2 p546 (by first | exact q546 | exact of_decide_eq_true (by first | (with_reducible assumption) | assumption) | (have e_ := (Kd.N_reads' HO_37.out).1; omega))
                    obtain ⟨ua546_7, uc546_7, ua546_8, uc546_8, rfl, ul546_7, ge546_7, ul546_8, ge546_8⟩ := k31_openF hMe546
                    have hv546_7 := hcc546 7 _ rfl
                    rw [add_field _ _ 7 (by omega)] at hv546_7
                    replace hv546_7 := Option.some.inj (hv546_7.symm.trans hx546_7)
                    injection hv546_7 with hva_ hvn_ hvc_
                    rw [hva_] at ge546_7
                    rw [hvc_] at ul546_7
                    have HL546_7 := Aside0.mk (show Kd.V (Kd.int .i64) 3 _ w.heap.size _ _ ((rd_T31 t543 x39_2).f7) from Kd.V_mk ul546_7 ge546_7)
                    clear hva_ hvn_ hvc_ ge546_7 ul546_7
                    have hv546_8 := hcc546 8 _ rfl
                    rw [add_field _ _ 8 (by omega)] at hv546_8
                    replace hv546_8 := Option.some.inj (hv546_8.symm.trans hx546_8)
                    injection hv546_8 with hva_ hvn_ hvc_
                    rw [hva_] at ge546_8
                    rw [hvc_] at ul546_8
                    have HL546_8 := Aside0.mk (show Kd.V (Kd.int .i64) 3 _ w.heap.size _ _ ((rd_T31 t543 x39_2).f8) from Kd.V_mk ul546_8 ge546_8)
                    clear hva_ hvn_ hvc_ ge546_8 ul546_8
                    clear hcc546 hce546
                    have HR546_7 := Aside0.mk hi546_7
                    have HC546_7 := Aside0.mk hl546_7
                    clear hi546_7 hl546_7
                    have HR546_8 := Aside0.mk hi546_8
                    have HC546_8 := Aside0.mk hl546_8
                    clear hi546_8 hl546_8
                    replace p546 := eq_true p546
                    replace q546 := eq_true q546
                    go_wp2_with (first | ((with_reducible refine gate_dst (N := 9) rfl ?_); refine box_event ?hg (N := 9) ?hd (cs := #[.int .i64 0, .int .i64 0, .int .i64 0, .int .i64 0, .int .i64 0, .int .i64 0, .int .i64 0, .slice none 0 0, .slice none 0 0]) (t := 31) ?hr ?_; (case hd => rfl); (case hg => rfl); (case hr => first | (go_simp; done) | (go_simp; rfl)); intro gb547 hg w32 hbox hb; have n0_ := Aside0.mk (Kd.N_below (Kd.N_elderB (by (with_reducible repeat (first | apply Kd.N_alloc | apply Kd.N_drewN | apply Kd.N_drew)); exact HO_37.out) gb547 (Nat.le_of_eq hg.symm)) hb); have n1_ := Aside0.mk (Kd.V_below (Kd.V_elderB (by (with_reducible repeat (first | apply Kd.V_alloc | apply Kd.V_drewN | apply Kd.V_drew)); exact HL546_7.out) gb547 (Nat.le_of_eq hg.symm)) hb); have n2_ := Aside0.mk (Kd.V_below (Kd.V_elderB (by (with_reducible repeat (first | apply Kd.V_alloc | apply Kd.V_drewN | apply Kd.V_drew)); exact HL546_8.out) gb547 (Nat.le_of_eq hg.symm)) hb); have n3_ := Aside0.mk (Kd.C_below (by repeat (first | (with_reducible exact HR546_7.out) | (with_reducible refine Kd.C_alloc ?_ _) | (with_reducible refine Kd.C_drewN ?_ _) | (with_reducible refine Kd.C_drew ?_) | exact HR546_7.out)) hb); have n4_ := Aside0.mk (Kd.C_below (by repeat (first | (with_reducible exact HR546_8.out) | (with_reducible refine Kd.C_alloc ?_ _) | (with_reducible refine Kd.C_drewN ?_ _) | (with_reducible refine Kd.C_drew ?_) | exact HR546_8.out)) hb); have n5_ := Aside0.mk (below_step (by repeat (first | (with_reducible first | exact HB.out | apply below_alloc | apply pw_below_drewN | apply below_drew1) | exact HB.out)) hb); have n6_ := Aside0.mk (hbox); have n7_ := Aside0.mk ((by rw [hg]; exact (below_size (by repeat (first | (with_reducible first | exact HB.out | apply below_alloc | apply pw_below_drewN | apply below_drew1) | exact HB.out))) : w.heap.size ≤ gb547)); have n8_ := Aside0.mk ((by rw [hg]; exact (below_size (by repeat (first | (with_reducible first | exact HB.out | apply below_alloc | apply pw_below_drewN | apply below_drew1) | exact HB.out))) : w.heap.size ≤ gb547)); clear HO_37; clear HL546_7; clear HL546_8; clear HR546_7; clear HR546_8; clear HB; have HO_37 := n0_; have HL546_7 := n1_; have HL546_8 := n2_; have HR546_7 := n3_; have HR546_8 := n4_; have HB := n5_; have BK547 := n6_; have GW547 := n7_; have GE547 := n8_; clear n0_ n1_ n2_ n3_ n4_ n5_ n6_ n7_ n8_; clear hb hbox hg; have hcz33_0 : w32.cell? ⟨gb547, 0, none⟩ = some (.int .i64 0) := (blk_cell BK547.out 0).trans rfl; have hcz33_1 : w32.cell? ⟨gb547, 1, none⟩ = some (.int .i64 0) := (blk_cell BK547.out 1).trans rfl; have hcz33_2 : w32.cell? ⟨gb547, 2, none⟩ = some (.int .i64 0) := (blk_cell BK547.out 2).trans rfl; have hcz33_3 : w32.cell? ⟨gb547, 3, none⟩ = some (.int .i64 0) := (blk_cell BK547.out 3).trans rfl; have hcz33_4 : w32.cell? ⟨gb547, 4, none⟩ = some (.int .i64 0) := (blk_cell BK547.out 4).trans rfl; have hcz33_5 : w32.cell? ⟨gb547, 5, none⟩ = some (.int .i64 0) := (blk_cell BK547.out 5).trans rfl; have hcz33_6 : w32.cell? ⟨gb547, 6, none⟩ = some (.int .i64 0) := (blk_cell BK547.out 6).trans rfl; have hcz33_7 : w32.cell? ⟨gb547, 7, none⟩ = some (.slice none 0 0) := (blk_cell BK547.out 7).trans rfl; have hcz33_8 : w32.cell? ⟨gb547, 8, none⟩ = some (.slice none 0 0) := (blk_cell BK547.out 8).trans rfl; have hfz33_0 := blk_frozen BK547.out 0; have hfz33_1 := blk_frozen BK547.out 1; have hfz33_2 := blk_frozen BK547.out 2; have hfz33_3 := blk_frozen BK547.out 3; have hfz33_4 := blk_frozen BK547.out 4; have hfz33_5 := blk_frozen BK547.out 5; have hfz33_6 := blk_frozen BK547.out 6; have hfz33_7 := blk_frozen BK547.out 7; have hfz33_8 := blk_frozen BK547.out 8))
                    go_roundg k2
                    case measure => have := HK1.out; have := HK2.out; omega
                    case rel => exact ⟨(wrap64 (x39_2 + 1)), (by first | rfl | (simp; done) | (simp [*]; done)), H', ⟨by have := HK1.out; have := HK2.out; omega⟩, ⟨by (with_reducible repeat (first | apply Kd.N_alloc | apply Kd.N_drewN | apply Kd.N_drew)); exact Kd.N_mono (Kd.N_far (p := ⟨gb547, 8, none⟩) (Kd.N_far (p := ⟨gb547, 7, none⟩) (Kd.N_far (p := ⟨gb547, 6, none⟩) (Kd.N_far (p := ⟨gb547, 5, none⟩) (Kd.N_far (p := ⟨gb547, 4, none⟩) (Kd.N_far (p := ⟨gb547, 3, none⟩) (Kd.N_far (p := ⟨gb547, 2, none⟩) (Kd.N_far (p := ⟨gb547, 1, none⟩) (Kd.N_far (p := ⟨gb547, 0, none⟩) (Kd.N_mono HO_37.out (fun k_ hk => (⟨hk, hk.2⟩ : _ ∧ k_ ≠ gb547))) (fun _ hk => hk.2) (.int .i64 ((rd_T31 t543 x39_2).f0))) (fun _ hk => hk.2) (.int .i64 ((rd_T31 t543 x39_2).f1))) (fun _ hk => hk.2) (.int .i64 ((rd_T31 t543 x39_2).f2))) (fun _ hk => hk.2) (.int .i64 ((rd_T31 t543 x39_2).f3))) (fun _ hk => hk.2) (.int .i64 ((rd_T31 t543 x39_2).f4))) (fun _ hk => hk.2) (.int .i64 ((rd_T31 t543 x39_2).f5))) (fun _ hk => hk.2) (.int .i64 ((rd_T31 t543 x39_2).f6))) (fun _ hk => hk.2) (.slice A546_7 ((rd_T31 t543 x39_2).f7).length c546_7)) (fun _ hk => hk.2) (.slice A546_8 ((rd_T31 t543 x39_2).f8).length c546_8)) (fun _ hk => trivial)⟩, ⟨by repeat (first | (with_reducible first | exact HB.out | apply below_alloc | apply pw_below_drewN | apply below_drew1 | refine below_set ?_ GE547.out) | exact HB.out)⟩⟩
                  · rw [if_neg c31] at H
                    have c31b0 : (((rd_T31 t543 x39_2).f6) == 2) = false := beq_eq_false_iff_ne.mpr c31
                    have c31b1 : (((rd_T31 t543 x39_2).f6) != 2) = true := bne_iff_ne.mpr c31
                    exact absurd ((Option.some.inj H).trans hr_.out) (by decide)
                · rw [if_neg c30] at H
                  exact absurd H (by simp)
              · rw [if_neg c29] at H
                exact absurd H (by simp)
            · rw [if_neg c28] at H
              have c28b0 : decide (x39_2 < (t543.length : Int)) = false := decide_eq_false c28
              clear c28
              replace H := Option.bind_eq_some_iff.mp H
              obtain ⟨t548, A360, H⟩ := H
              replace H : (some t548) = some r := H
              have A36 := Aside0.mk A360
              clear A360
              obtain rfl := Option.some.inj H
              go_wp2_with (first | ((with_reducible refine gate_callee (f := 10) rfl ?_); refine goesL_ (some 47) rfl rfl Tryd.func10 (by kernel_rfl) rfl #[] rfl (by (try simp only [List.map_toArray, List.map_cons, List.map_nil]); first | done | rfl | (simp only [List.length_drop, List.length_take]; rfl)) ?_; (with_reducible refine (kauditlaw41_begun.calls k2  t548 _ ?side1 A36.out).mono ?_); (case side1 => exact TabOk.below HT.out (by repeat (first | (with_reducible first | exact HB.out | apply below_alloc | apply pw_below_drewN | apply below_drew1) | exact HB.out))); rintro e w37 ⟨rfl, hb⟩; refine ⟨_, rfl, ?_⟩; have n0_ := Aside0.mk (Kd.N_below (by (with_reducible repeat (first | apply Kd.N_alloc | apply Kd.N_drewN | apply Kd.N_drew)); exact HO_37.out) hb); have n1_ := Aside0.mk (below_step (by repeat (first | (with_reducible first | exact HB.out | apply below_alloc | apply pw_below_drewN | apply below_drew1) | exact HB.out)) hb); clear HO_37; clear HB; have HO_37 := n0_; have HB := n1_; clear n0_ n1_; (try clear hb); (try clear hb2); (try clear hk); (try clear hi)))
              go_ret
              exact ⟨by first | rfl | (simp only [show ∀ l_ : List UInt8, (l_ != ([] : List UInt8)) = !l_.isEmpty from (fun l_ => by cases l_ <;> rfl), show ∀ l_ : List UInt8, (l_ == ([] : List UInt8)) = l_.isEmpty from (fun l_ => by cases l_ <;> rfl)]; rfl) | (simp [errW_none, errW_some] <;> rfl) | (simp [*, errW_none, errW_some] <;> rfl), by repeat (first | (with_reducible first | exact HB.out | apply below_alloc | apply pw_below_drewN | apply below_drew1) | exact HB.out)⟩

def kauditlaw41_SessionsEnd.f (k : Nat) (l0 : List Int) : Option (Bool) := (kauditlaw41_SessionsEnd.g k l0).bind fun b => if b = true then some true else none
theorem kauditlaw41_SessionsEnd.calls (k : Nat) (A0 : Option Addr) (c0 : Nat) (l0 : List Int) (r : Bool) (w : World) (hT : TabOk w) (hr0 : Kd.C (Kd.int .u8) w A0 l0.length l0) (hc0 : l0.length ≤ c0) (h : kauditlaw41_SessionsEnd.f k l0 = some r) :
    Calls Tryd.prog 3 #[.slice A0 l0.length c0] w fun e w' => e = .returned (.bool r) ∧ Below w.heap.size w w' := by
  obtain ⟨b, h1, h2⟩ := Option.bind_eq_some_iff.1 (show (kauditlaw41_SessionsEnd.g k l0).bind (fun b => if b = true then some true else none) = some r from h)
  cases b with
  | false => cases h2
  | true =>
    obtain rfl := Option.some.inj h2
    exact kauditlaw41_SessionsEnd.callsT k A0 c0 l0 true w hT hr0 hc0 h1 ⟨rfl⟩

end Go.Proofs.YtjgehecnamadcaaDoor.Q
