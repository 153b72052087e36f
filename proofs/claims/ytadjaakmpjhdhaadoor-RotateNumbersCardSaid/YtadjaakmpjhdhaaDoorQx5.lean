-- Printed by px.py: a changed copy of the kit's printer, with contracts of this session's own in it. Not trusted: Lean checks it.
import Derived.Test.YtadjaakmpjhdhaaDoorQx0
import Derived.Test.YtadjaakmpjhdhaaDoorQx1
import Derived.Test.YtadjaakmpjhdhaaDoorQx2
import Derived.Test.YtadjaakmpjhdhaaDoorQx3
namespace Go.Proofs.YtadjaakmpjhdhaaDoor.Q
open Go.RowKit Go.Proofs.YtadjaakmpjhdhaaDoorW.PrintWords Go.Proofs.YtadjaakmpjhdhaaDoorW.PrintLast Go.Proofs.YtadjaakmpjhdhaaDoorW.PrintMore
attribute [local go_sem] max2_int min2_int max_two min_two max_three min_three max_four min_four   -- for this text's walks alone
set_option linter.unusedVariables false
set_option linter.unusedSimpArgs false

/-! ### kauditlaw26_RotateKeeps: function 5 -/
mutual
def kauditlaw26_RotateKeeps.l0 : Nat → List Int → Int → List Int → Int → Int → Int → Int → Option (Bool)
  | 0, _, _, _, _, _, _, _ => none
  | k + 1, x5, x6, x236000, x236001, x241000, x241001, x241002 => if x6 > 0 then ((kauditmill_Case_Int.f x236000 x236001 200).bind fun bt243 => ((kauditref26_Add.f k x5 (wrap64 (1 + bt243.1))).bind fun t245 => (kauditlaw26_RotateKeeps.l0 k t245 (wrap64 (x6 - 1)) x236000 bt243.2 x241000 x241001 x241002))) else ((rotate_Drop.f k x241000 x241001 x241002 x5).bind fun t248 => (if (wrap64 ((wrap64 ((x5.length : Int) - (t248.length : Int))) + 1)) > x241001 then (kauditlaw26_RotateKeeps.j1 k x5 t248 true) else (if (t248.length : Int) > (x5.length : Int) then (kauditlaw26_RotateKeeps.j1 k x5 t248 true) else (if (t248.length : Int) > 0 then (kauditlaw26_RotateKeeps.j1 k x5 t248 ((wrap64 ((wrap64 ((x5.length : Int) - (t248.length : Int))) + 1)) != x241001)) else (kauditlaw26_RotateKeeps.j1 k x5 t248 false)))))
def kauditlaw26_RotateKeeps.j1 : Nat → List Int → List Int → Bool → Option (Bool)
  | 0, _, _, _ => none
  | k + 1, x5, x7, x60 => if x60 = true then (some false) else (kauditlaw26_RotateKeeps.l1 k x5 x7 (x7.length : Int) 0)
def kauditlaw26_RotateKeeps.l1 : Nat → List Int → List Int → Int → Int → Option (Bool)
  | 0, _, _, _, _ => none
  | k + 1, x5, x61, x62, x63 => if x63 < x62 then (if 0 ≤ x63 then (if x63 < (x61.length : Int) then (if x63 < (x5.length : Int) then (if (rd x61 x63) = (rd x5 x63) then (kauditlaw26_RotateKeeps.l1 k x5 x61 x62 (wrap64 (x63 + 1))) else (some false)) else (none)) else (none)) else (none)) else ((kauditlaw26_begun.f k).bind fun t253 => (some t253))
end
def kauditlaw26_RotateKeeps.f (k : Nat) (l0 : List Int) : Option (Bool) := (kauditmill_New.f l0 60).bind fun bt233 => ((kauditmill_Case_Rotation.f bt233.1 bt233.2).bind fun bt236 => ((kauditmill_Case_Int.f bt233.1 bt236.2.2.2 14).bind fun bt241 => (kauditlaw26_RotateKeeps.l0 k ([] : List Int) bt241.1 bt233.1 bt241.2 bt236.1 bt236.2.1 1)))
theorem kauditlaw26_RotateKeeps.mono_l : ∀ k, (∀ y0 y1 y2 y3 y4 y5 y6, LeO (kauditlaw26_RotateKeeps.l0 k y0 y1 y2 y3 y4 y5 y6) (kauditlaw26_RotateKeeps.l0 (k + 1) y0 y1 y2 y3 y4 y5 y6)) ∧ (∀ y0 y1 y2, LeO (kauditlaw26_RotateKeeps.j1 k y0 y1 y2) (kauditlaw26_RotateKeeps.j1 (k + 1) y0 y1 y2)) ∧ (∀ y0 y1 y2 y3, LeO (kauditlaw26_RotateKeeps.l1 k y0 y1 y2 y3) (kauditlaw26_RotateKeeps.l1 (k + 1) y0 y1 y2 y3))
  | 0 => ⟨fun _ _ _ _ _ _ _ r h => by simp [kauditlaw26_RotateKeeps.l0] at h, fun _ _ _ r h => by simp [kauditlaw26_RotateKeeps.j1] at h, fun _ _ _ _ r h => by simp [kauditlaw26_RotateKeeps.l1] at h⟩
  | k + 1 => by
    obtain ⟨ih0, ih1, ih2⟩ := kauditlaw26_RotateKeeps.mono_l k
    refine ⟨?_, ?_, ?_⟩
    · intro y0 y1 y2 y3 y4 y5 y6
      unfold kauditlaw26_RotateKeeps.l0
      repeat' first
      | (with_reducible exact ih0 _ _ _ _ _ _ _)
      | (with_reducible exact ih1 _ _ _)
      | (with_reducible exact ih2 _ _ _ _)
      | (with_reducible exact kauditlaw26_begun.mono _)
      | (with_reducible exact kauditref26_Add.mono _ _ _)
      | (with_reducible exact rotate_Drop.mono _ _ _ _ _)
      | (with_reducible exact LeO.refl _)
      | (with_reducible exact LeO.none _)
      | (with_reducible refine LeO.ite ?_ ?_)
      | (with_reducible refine LeO.bind ?_ (fun _ => ?_))
      | exact ih0 _ _ _ _ _ _ _
      | exact ih1 _ _ _
      | exact ih2 _ _ _ _
      | exact kauditlaw26_begun.mono _
      | exact kauditref26_Add.mono _ _ _
      | exact rotate_Drop.mono _ _ _ _ _
      | exact LeO.none _
      | refine LeO.ite ?_ ?_
      | refine LeO.bind ?_ (fun _ => ?_)
    · intro y0 y1 y2
      unfold kauditlaw26_RotateKeeps.j1
      repeat' first
      | (with_reducible exact ih0 _ _ _ _ _ _ _)
      | (with_reducible exact ih1 _ _ _)
      | (with_reducible exact ih2 _ _ _ _)
      | (with_reducible exact kauditlaw26_begun.mono _)
      | (with_reducible exact kauditref26_Add.mono _ _ _)
      | (with_reducible exact rotate_Drop.mono _ _ _ _ _)
      | (with_reducible exact LeO.refl _)
      | (with_reducible exact LeO.none _)
      | (with_reducible refine LeO.ite ?_ ?_)
      | (with_reducible refine LeO.bind ?_ (fun _ => ?_))
      | exact ih0 _ _ _ _ _ _ _
      | exact ih1 _ _ _
      | exact ih2 _ _ _ _
      | exact kauditlaw26_begun.mono _
      | exact kauditref26_Add.mono _ _ _
      | exact rotate_Drop.mono _ _ _ _ _
      | exact LeO.none _
      | refine LeO.ite ?_ ?_
      | refine LeO.bind ?_ (fun _ => ?_)
    · intro y0 y1 y2 y3
      unfold kauditlaw26_RotateKeeps.l1
      repeat' first
      | (with_reducible exact ih0 _ _ _ _ _ _ _)
      | (with_reducible exact ih1 _ _ _)
      | (with_reducible exact ih2 _ _ _ _)
      | (with_reducible exact kauditlaw26_begun.mono _)
      | (with_reducible exact kauditref26_Add.mono _ _ _)
      | (with_reducible exact rotate_Drop.mono _ _ _ _ _)
      | (with_reducible exact LeO.refl _)
      | (with_reducible exact LeO.none _)
      | (with_reducible refine LeO.ite ?_ ?_)
      | (with_reducible refine LeO.bind ?_ (fun _ => ?_))
      | exact ih0 _ _ _ _ _ _ _
      | exact ih1 _ _ _
      | exact ih2 _ _ _ _
      | exact kauditlaw26_begun.mono _
      | exact kauditref26_Add.mono _ _ _
      | exact rotate_Drop.mono _ _ _ _ _
      | exact LeO.none _
      | refine LeO.ite ?_ ?_
      | refine LeO.bind ?_ (fun _ => ?_)
theorem kauditlaw26_RotateKeeps.mono : ∀ a0 k, LeO (kauditlaw26_RotateKeeps.f k a0) (kauditlaw26_RotateKeeps.f (k + 1) a0) := by
  intro a0 k
  obtain ⟨ih0, ih1, ih2⟩ := kauditlaw26_RotateKeeps.mono_l k
  unfold kauditlaw26_RotateKeeps.f
  repeat' first
      | (with_reducible exact ih0 _ _ _ _ _ _ _)
      | (with_reducible exact ih1 _ _ _)
      | (with_reducible exact ih2 _ _ _ _)
      | (with_reducible exact kauditlaw26_begun.mono _)
      | (with_reducible exact kauditref26_Add.mono _ _ _)
      | (with_reducible exact rotate_Drop.mono _ _ _ _ _)
      | (with_reducible exact LeO.refl _)
      | (with_reducible exact LeO.none _)
      | (with_reducible refine LeO.ite ?_ ?_)
      | (with_reducible refine LeO.bind ?_ (fun _ => ?_))
      | exact ih0 _ _ _ _ _ _ _
      | exact ih1 _ _ _
      | exact ih2 _ _ _ _
      | exact kauditlaw26_begun.mono _
      | exact kauditref26_Add.mono _ _ _
      | exact rotate_Drop.mono _ _ _ _ _
      | exact LeO.none _
      | refine LeO.ite ?_ ?_
      | refine LeO.bind ?_ (fun _ => ?_)
set_option maxHeartbeats 8000000 in
set_option maxRecDepth 100000 in
theorem kauditlaw26_RotateKeeps.calls (k : Nat) (A0 : Option Addr) (c0 : Nat) (l0 : List Int) (r : Bool) (w : World) (hT : TabOk w) (hr0 : Kd.C (Kd.int .u8) w A0 l0.length l0) (hc0 : l0.length ≤ c0) (h : kauditlaw26_RotateKeeps.f k l0 = some r) :
    Calls Tryd.prog 5 #[.slice A0 l0.length c0] w fun e w' => e = .returned (.bool r) ∧ Below w.heap.size w w' := by
  have hu23 := Tryd.underlying23
  have HT := Aside0.mk hT
  clear hT
  have HR0 := Aside0.mk hr0
  have HC0 := Aside0.mk hc0
  clear hr0 hc0
  have HB := Aside0.mk (Below.refl w.heap.size w)
  have H : ((kauditmill_New.f l0 60).bind fun bt233 => ((kauditmill_Case_Rotation.f bt233.1 bt233.2).bind fun bt236 => ((kauditmill_Case_Int.f bt233.1 bt236.2.2.2 14).bind fun bt241 => (kauditlaw26_RotateKeeps.l0 k ([] : List Int) bt241.1 bt233.1 bt241.2 bt236.1 bt236.2.1 1)))) = some r := h
  clear h
  replace H := Option.bind_eq_some_iff.mp H
  obtain ⟨⟨t233, t234⟩, A20, H⟩ := H
  replace H : ((kauditmill_Case_Rotation.f t233 t234).bind fun bt236 => ((kauditmill_Case_Int.f t233 bt236.2.2.2 14).bind fun bt241 => (kauditlaw26_RotateKeeps.l0 k ([] : List Int) bt241.1 t233 bt241.2 bt236.1 bt236.2.1 1))) = some r := H
  have A2 := Aside0.mk A20
  clear A20
  replace H := Option.bind_eq_some_iff.mp H
  obtain ⟨⟨t236, t237, t238, t239⟩, A30, H⟩ := H
  replace H : ((kauditmill_Case_Int.f t233 t239 14).bind fun bt241 => (kauditlaw26_RotateKeeps.l0 k ([] : List Int) bt241.1 t233 bt241.2 t236 t237 1)) = some r := H
  have A3 := Aside0.mk A30
  clear A30
  replace H := Option.bind_eq_some_iff.mp H
  obtain ⟨⟨t241, t242⟩, A40, H⟩ := H
  replace H : (kauditlaw26_RotateKeeps.l0 k ([] : List Int) t241 t233 t242 t236 t237 1) = some r := H
  have A4 := Aside0.mk A40
  clear A40
  have H' := Aside0.mk H
  clear H
  go_enter Tryd.func5, Tryd.ntmps5
  go_wp2_with (first | ((with_reducible refine gate_callee (f := 9) rfl ?_); refine goesL_ (some 11) rfl rfl Tryd.func9 (by kernel_rfl) rfl #[.slice A0 l0.length c0, .int .i64 60] rfl (by (try simp only [List.map_toArray, List.map_cons, List.map_nil]); first | done | rfl | (simp only [List.length_drop, List.length_take]; rfl)) ?_; (with_reducible refine (kauditmill_New.calls _ _ l0 60 t233 t234 w _ ?side1 ?side2 ?side3 A2.out).mono ?_); (case side1 => repeat (first | (with_reducible first | exact HB.out | apply below_alloc | apply pw_below_drewN | apply below_drew1) | exact HB.out)); (case side2 => exact HR0.out); (case side3 => exact HC0.out); rintro e w5 ⟨g235, rfl, hi, hb, hb2⟩; refine ⟨_, rfl, ?_⟩; have n0_ := Aside0.mk (hb); have n1_ := Aside0.mk (hi); clear HB; have HB := n0_; have HI235 := n1_; clear n0_ n1_; (try clear hb); (try clear hb2); (try clear hk); (try clear hi)) | ((with_reducible refine gate_callee (f := 10) rfl ?_); refine goesL_ (some 13) rfl rfl Tryd.func10 (by kernel_rfl) rfl #[.pointer (some ⟨g235, 0, none⟩)] rfl (by (try simp only [List.map_toArray, List.map_cons, List.map_nil]); first | done | rfl | (simp only [List.length_drop, List.length_take]; rfl)) ?_; (with_reducible refine (kauditmill_Case_Rotation.calls g235 t233 t234 t236 t237 t238 t239 w _ ?side1 ?side2 A3.out).mono ?_); (case side1 => repeat (first | (with_reducible first | exact HI235.out | apply IsS54.alloc | apply IsS54.drewN | apply IsS54.drew | apply IsS54.set_1) | exact HI235.out)); (case side2 => repeat (first | (with_reducible first | exact HB.out | apply below_alloc | apply pw_below_drewN | apply below_drew1 | refine below_set ?_ (IsS54.ge HI235.out)) | exact HB.out)); rintro e w6 ⟨rfl, hi, hb, hk⟩; refine ⟨_, rfl, ?_⟩; have n0_ := Aside0.mk (hb); have n1_ := Aside0.mk (hi); clear HB; clear HI235; have HB := n0_; have HI235 := n1_; clear n0_ n1_; (try clear hb); (try clear hb2); (try clear hk); (try clear hi)) | ((with_reducible refine gate_dst (N := 4) rfl ?_); (try (refine gate_guard (by rfl) ?_; dsimp only)); refine box_event ?hg (N := 4) ?hd (cs := #[.int .i64 0, .int .i64 0, .int .i64 0]) (t := 23) ?hr ?_; (case hd => rfl); (case hg => rfl); (case hr => first | (go_simp; done) | (go_simp; rfl)); intro gb240 hg w7 hbox hb; have n0_ := Aside0.mk (IsS54.below (by repeat (first | (with_reducible first | exact HI235.out | apply IsS54.alloc | apply IsS54.drewN | apply IsS54.drew | apply IsS54.set_1) | exact HI235.out)) hb); have n1_ := Aside0.mk (below_step (by repeat (first | (with_reducible first | exact HB.out | apply below_alloc | apply pw_below_drewN | apply below_drew1 | refine below_set ?_ (IsS54.ge HI235.out)) | exact HB.out)) hb); have n2_ := Aside0.mk (hbox); have n3_ := Aside0.mk ((by rw [hg]; exact (below_size (by repeat (first | (with_reducible first | exact HB.out | apply below_alloc | apply pw_below_drewN | apply below_drew1 | refine below_set ?_ (IsS54.ge HI235.out)) | exact HB.out))) : w.heap.size ≤ gb240)); have n4_ := Aside0.mk ((by rw [hg]; exact (below_size (by repeat (first | (with_reducible first | exact HB.out | apply below_alloc | apply pw_below_drewN | apply below_drew1 | refine below_set ?_ (IsS54.ge HI235.out)) | exact HB.out))) : w.heap.size ≤ gb240)); have n5_ := Aside0.mk ((by rw [hg]; exact Nat.ne_of_lt (IsS54.lt (show IsS54 w _ g235 t233 t239 from by repeat (first | (with_reducible first | exact HI235.out | apply IsS54.alloc | apply IsS54.drewN | apply IsS54.drew | apply IsS54.set_1) | exact HI235.out))) : g235 ≠ gb240)); have n6_ := Aside0.mk ((by rw [hg]; exact Nat.ne_of_gt (IsS54.lt (show IsS54 w _ g235 t233 t239 from by repeat (first | (with_reducible first | exact HI235.out | apply IsS54.alloc | apply IsS54.drewN | apply IsS54.drew | apply IsS54.set_1) | exact HI235.out))) : gb240 ≠ g235)); clear HI235; clear HB; have HI235 := n0_; have HB := n1_; have BK240 := n2_; have GW240 := n3_; have GE240 := n4_; have NB235_240 := n5_; have NB240_235 := n6_; clear n0_ n1_ n2_ n3_ n4_ n5_ n6_; clear hb hbox hg; have hnb8 := NB240_235.out; have hnc8 := NB235_240.out; have hcz9_0 : w7.cell? ⟨gb240, 0, none⟩ = some (.int .i64 0) := (blk_cell BK240.out 0).trans rfl; have hcz9_1 : w7.cell? ⟨gb240, 1, none⟩ = some (.int .i64 0) := (blk_cell BK240.out 1).trans rfl; have hcz9_2 : w7.cell? ⟨gb240, 2, none⟩ = some (.int .i64 0) := (blk_cell BK240.out 2).trans rfl; have hfz9_0 := blk_frozen BK240.out 0; have hfz9_1 := blk_frozen BK240.out 1; have hfz9_2 := blk_frozen BK240.out 2) | ((with_reducible refine gate_callee (f := 17) rfl ?_); refine goesL_ (some 16) rfl rfl Tryd.func17 (by kernel_rfl) rfl #[.pointer (some ⟨g235, 0, none⟩), .int .i64 14] rfl (by (try simp only [List.map_toArray, List.map_cons, List.map_nil]); first | done | rfl | (simp only [List.length_drop, List.length_take]; rfl)) ?_; (with_reducible refine (kauditmill_Case_Int.calls g235 t233 t239 14 t241 t242 w _ ?side1 ?side2 A4.out).mono ?_); (case side1 => repeat (first | (with_reducible first | exact HI235.out | apply IsS54.alloc | apply IsS54.drewN | apply IsS54.drew | apply IsS54.set_1 | refine IsS54.far ?_ NB235_240.out _) | exact HI235.out)); (case side2 => repeat (first | (with_reducible first | exact HB.out | apply below_alloc | apply pw_below_drewN | apply below_drew1 | refine below_set ?_ (IsS54.ge HI235.out) | refine below_set ?_ GE240.out) | exact HB.out)); rintro e w10 ⟨rfl, hi, hb, hk⟩; refine ⟨_, rfl, ?_⟩; have n0_ := Aside0.mk (KeepBut.blk hk (g' := gb240) (o := .cells #[.int .i64 t236, .int .i64 t237, .int .i64 1] 23 (0, 0)) (by (with_reducible repeat (first | refine blk_drewN ?_ _ | refine blk_drew ?_ | refine blk_alloc ?_ _)); refine blk_put (cs := #[.int .i64 t236, .int .i64 t237, .int .i64 t238]) ?_ 2 _ rfl; (with_reducible repeat (first | refine blk_drewN ?_ _ | refine blk_drew ?_ | refine blk_alloc ?_ _)); refine blk_put (cs := #[.int .i64 t236, .int .i64 t237, .int .i64 0]) ?_ 2 _ rfl; (with_reducible repeat (first | refine blk_drewN ?_ _ | refine blk_drew ?_ | refine blk_alloc ?_ _)); refine blk_put (cs := #[.int .i64 t236, .int .i64 0, .int .i64 0]) ?_ 1 _ rfl; (with_reducible repeat (first | refine blk_drewN ?_ _ | refine blk_drew ?_ | refine blk_alloc ?_ _)); refine blk_put (cs := #[.int .i64 0, .int .i64 0, .int .i64 0]) ?_ 0 _ rfl; (with_reducible repeat (first | refine blk_drewN ?_ _ | refine blk_drew ?_ | refine blk_alloc ?_ _)); exact BK240.out) NB240_235.out (by simp)); have n1_ := Aside0.mk (hb); have n2_ := Aside0.mk (hi); clear BK240; clear HB; clear HI235; have BK240 := n0_; have HB := n1_; have HI235 := n2_; clear n0_ n1_ n2_; (try clear hb); (try clear hb2); (try clear hk); (try clear hi)))
  go_loopg [5, 6] k (fun kq v5 v6 w' => ∃ (x5_1 : List Int) (x6_1 : Int) (x236001_1 : Int), v6 = .int .i64 x6_1 ∧ Aside0 (kauditlaw26_RotateKeeps.l0 kq x5_1 x6_1 t233 x236001_1 t236 t237 1 = some r) ∧ Aside0 (kq ≤ k) ∧ Aside0 (Kd.R (Kd.int .i64) 3 w' w.heap.size (fun _ => True) v5 x5_1) ∧ Aside0 (w'.heap[gb240]? = some (.cells #[.int .i64 t236, .int .i64 t237, .int .i64 1] 23 (0, 0))) ∧ Aside0 (IsS54 w w' g235 t233 x236001_1) ∧ Aside0 (Below w.heap.size w w'))
  case atStart => exact ⟨(([] : List Int)), (t241), (t242), (by first | rfl | (simp; done) | (simp [*]; done)), H', ⟨Nat.le_refl _⟩, ⟨by first | exact Kd.R_nil _ _ _ _ _ | exact Kd.N_nil _ _ _ _ _ | exact Kd.V_nil _ _ _ _ _ | exact Kd.Q_nil _ _ _ _ _ | exact Kd.S_nil _ _ _ _ _⟩, ⟨by (with_reducible repeat (first | refine blk_drewN ?_ _ | refine blk_drew ?_ | refine blk_alloc ?_ _)); exact BK240.out⟩, ⟨by repeat (first | (with_reducible first | exact HI235.out | apply IsS54.alloc | apply IsS54.drewN | apply IsS54.drew | apply IsS54.set_1 | refine IsS54.far ?_ NB235_240.out _) | exact HI235.out)⟩, ⟨by repeat (first | (with_reducible first | exact HB.out | apply below_alloc | apply pw_below_drewN | apply below_drew1 | refine below_set ?_ (IsS54.ge HI235.out) | refine below_set ?_ GE240.out) | exact HB.out)⟩⟩
  case round =>
    clear H'
    try clear c1
    try clear p2
    try clear c5
    try clear c8
    try clear c9
    try clear c10
    try clear hcz9_0
    try clear hcz9_1
    try clear hcz9_2
    try clear hfz9_0
    try clear hfz9_1
    try clear hfz9_2
    obtain ⟨x5_1, x6_1, x236001_1, rfl, HA, HK1, HO_5, BK240, HI235, HB⟩ := hrel
    cases gk with
    | zero => exact absurd HA.out (by simp [kauditlaw26_RotateKeeps.l0])
    | succ k1 =>
      have H := HA.out
      clear HA
      simp only [kauditlaw26_RotateKeeps.l0] at H
      by_cases c11 : x6_1 > 0
      · rw [if_pos c11] at H
        have c11b0 : decide (0 < x6_1) = true := decide_eq_true c11
        clear c11
        replace H := Option.bind_eq_some_iff.mp H
        obtain ⟨⟨t243, t244⟩, A120, H⟩ := H
        replace H : ((kauditref26_Add.f k1 x5_1 (wrap64 (1 + t243))).bind fun t245 => (kauditlaw26_RotateKeeps.l0 k1 t245 (wrap64 (x6_1 - 1)) t233 t244 t236 t237 1)) = some r := H
        have A12 := Aside0.mk A120
        clear A120
        replace H := Option.bind_eq_some_iff.mp H
        obtain ⟨t245, A130, H⟩ := H
        replace H : (kauditlaw26_RotateKeeps.l0 k1 t245 (wrap64 (x6_1 - 1)) t233 t244 t236 t237 1) = some r := H
        have A13 := Aside0.mk A130
        clear A130
        have H' := Aside0.mk H
        clear H
        go_wp2_with (first | ((with_reducible refine gate_callee (f := 17) rfl ?_); refine goesL_ (some 23) rfl rfl Tryd.func17 (by kernel_rfl) rfl #[.pointer (some ⟨g235, 0, none⟩), .int .i64 200] rfl (by (try simp only [List.map_toArray, List.map_cons, List.map_nil]); first | done | rfl | (simp only [List.length_drop, List.length_take]; rfl)) ?_; (with_reducible refine (kauditmill_Case_Int.calls g235 t233 x236001_1 200 t243 t244 w _ ?side1 ?side2 A12.out).mono ?_); (case side1 => repeat (first | (with_reducible first | exact HI235.out | apply IsS54.alloc | apply IsS54.drewN | apply IsS54.drew | apply IsS54.set_1 | refine IsS54.far ?_ NB235_240.out _) | exact HI235.out)); (case side2 => repeat (first | (with_reducible first | exact HB.out | apply below_alloc | apply pw_below_drewN | apply below_drew1 | refine below_set ?_ (IsS54.ge HI235.out) | refine below_set ?_ GE240.out) | exact HB.out)); rintro e w14 ⟨rfl, hi, hb, hk⟩; refine ⟨_, rfl, ?_⟩; have n0_ := Aside0.mk (Kd.R_mono (Kd.R_keep (IsS54.apart (show IsS54 w _ g235 t233 x236001_1 from by repeat (first | (with_reducible first | exact HI235.out | apply IsS54.alloc | apply IsS54.drewN | apply IsS54.drew | apply IsS54.set_1 | refine IsS54.far ?_ NB235_240.out _) | exact HI235.out)) (by (with_reducible repeat (first | apply Kd.R_alloc | apply Kd.R_drewN | apply Kd.R_drew)); exact HO_5.out) (by decide)) hk (fun _ h => h.2)) (fun _ h => h.1)); have n1_ := Aside0.mk (KeepBut.blk hk (g' := gb240) (o := .cells #[.int .i64 t236, .int .i64 t237, .int .i64 1] 23 (0, 0)) (by (with_reducible repeat (first | refine blk_drewN ?_ _ | refine blk_drew ?_ | refine blk_alloc ?_ _)); exact BK240.out) NB240_235.out (by simp)); have n2_ := Aside0.mk (hb); have n3_ := Aside0.mk (hi); clear HO_5; clear BK240; clear HB; clear HI235; have HO_5 := n0_; have BK240 := n1_; have HB := n2_; have HI235 := n3_; clear n0_ n1_ n2_ n3_; (try clear hb); (try clear hb2); (try clear hk); (try clear hi); obtain ⟨Ao15, co15, eo15⟩ := Kd.R_slice HO_5.out; subst eo15) | ((with_reducible refine gate_callee (f := 21) rfl ?_); refine goesL_ (some 25) rfl rfl Tryd.func21 (by kernel_rfl) rfl #[.slice Ao15 x5_1.length co15, .int .i64 (wrap64 (1 + t243))] rfl (by (try simp only [List.map_toArray, List.map_cons, List.map_nil]); first | done | rfl | (simp only [List.length_drop, List.length_take]; rfl)) ?_; (with_reducible refine (kauditref26_Add.calls k1 _ _ x5_1 (wrap64 (1 + t243)) t245 _ ?side1 ?side2 A13.out).mono ?_); (case side1 => repeat (first | exact (Kd.R_reads' HO_5.out).2.2 | (with_reducible refine Kd.C_alloc ?_ _) | (with_reducible refine Kd.C_drewN ?_ _) | (with_reducible refine Kd.C_drew ?_))); (case side2 => exact (Kd.R_reads' HO_5.out).2.1); rintro e w16 ⟨v246, rfl, ho0, hb⟩; refine ⟨_, rfl, ?_⟩; have n0_ := Aside0.mk (Kd.R_elder' (by (with_reducible repeat (first | apply Kd.R_alloc | apply Kd.R_drewN | apply Kd.R_drew)); exact HO_5.out) (Kd.R_base ho0) hb); have n1_ := Aside0.mk (Kd.R_lower (Kd.R_new' ho0 (Kd.R_lt (by (with_reducible repeat (first | apply Kd.R_alloc | apply Kd.R_drewN | apply Kd.R_drew)); exact HO_5.out))) (below_size (by repeat (first | (with_reducible first | exact HB.out | apply below_alloc | apply pw_below_drewN | apply below_drew1 | refine below_set ?_ (IsS54.ge HI235.out) | refine below_set ?_ GE240.out) | exact HB.out)))); have n2_ := Aside0.mk (blk_below (g := gb240) (o := .cells #[.int .i64 t236, .int .i64 t237, .int .i64 1] 23 (0, 0)) (by (with_reducible repeat (first | refine blk_drewN ?_ _ | refine blk_drew ?_ | refine blk_alloc ?_ _)); exact BK240.out) hb); have n3_ := Aside0.mk (IsS54.below (by repeat (first | (with_reducible first | exact HI235.out | apply IsS54.alloc | apply IsS54.drewN | apply IsS54.drew | apply IsS54.set_1 | refine IsS54.far ?_ NB235_240.out _) | exact HI235.out)) hb); have n4_ := Aside0.mk (below_step (by repeat (first | (with_reducible first | exact HB.out | apply below_alloc | apply pw_below_drewN | apply below_drew1 | refine below_set ?_ (IsS54.ge HI235.out) | refine below_set ?_ GE240.out) | exact HB.out)) hb); clear HO_5; clear BK240; clear HI235; clear HB; have HO_5 := n0_; have HO247 := n1_; have BK240 := n2_; have HI235 := n3_; have HB := n4_; clear n0_ n1_ n2_ n3_ n4_; (try clear hb); (try clear hb2); (try clear hk); (try clear hi); (try clear ho0)))
        go_roundg k1
        case measure => have := HK1.out; omega
        case rel => exact ⟨(t245), (wrap64 (x6_1 - 1)), (t244), (by first | rfl | (simp; done) | (simp [*]; done)), H', ⟨by have := HK1.out; omega⟩, ⟨by (with_reducible repeat (first | apply Kd.R_alloc | apply Kd.R_drewN | apply Kd.R_drew)); exact Kd.R_mono HO247.out (fun _ hk => trivial)⟩, ⟨by (with_reducible repeat (first | refine blk_drewN ?_ _ | refine blk_drew ?_ | refine blk_alloc ?_ _)); exact BK240.out⟩, ⟨by repeat (first | (with_reducible first | exact HI235.out | apply IsS54.alloc | apply IsS54.drewN | apply IsS54.drew | apply IsS54.set_1 | refine IsS54.far ?_ NB235_240.out _) | exact HI235.out)⟩, ⟨by repeat (first | (with_reducible first | exact HB.out | apply below_alloc | apply pw_below_drewN | apply below_drew1 | refine below_set ?_ (IsS54.ge HI235.out) | refine below_set ?_ GE240.out) | exact HB.out)⟩⟩
      · rw [if_neg c11] at H
        have c11b0 : decide (0 < x6_1) = false := decide_eq_false c11
        clear c11
        replace H := Option.bind_eq_some_iff.mp H
        obtain ⟨t248, A170, H⟩ := H
        replace H : (if (wrap64 ((wrap64 ((x5_1.length : Int) - (t248.length : Int))) + 1)) > t237 then (kauditlaw26_RotateKeeps.j1 k1 x5_1 t248 true) else (if (t248.length : Int) > (x5_1.length : Int) then (kauditlaw26_RotateKeeps.j1 k1 x5_1 t248 true) else (if (t248.length : Int) > 0 then (kauditlaw26_RotateKeeps.j1 k1 x5_1 t248 ((wrap64 ((wrap64 ((x5_1.length : Int) - (t248.length : Int))) + 1)) != t237)) else (kauditlaw26_RotateKeeps.j1 k1 x5_1 t248 false)))) = some r := H
        have A17 := Aside0.mk A170
        clear A170
        have HC18 := Aside0.mk H
        clear H
        have hnb19 := NB240_235.out
        have hnc19 := NB235_240.out
        have hcz20_0 : wr.cell? ⟨gb240, 0, none⟩ = some (.int .i64 t236) := (blk_cell BK240.out 0).trans rfl
        have hcz20_1 : wr.cell? ⟨gb240, 1, none⟩ = some (.int .i64 t237) := (blk_cell BK240.out 1).trans rfl
        have hcz20_2 : wr.cell? ⟨gb240, 2, none⟩ = some (.int .i64 1) := (blk_cell BK240.out 2).trans rfl
        have hfz20_0 := blk_frozen BK240.out 0
        have hfz20_1 := blk_frozen BK240.out 1
        have hfz20_2 := blk_frozen BK240.out 2
        obtain ⟨Ao21, co21, eo21⟩ := Kd.R_slice HO_5.out
        subst eo21
        go_upto_region 10 with (first | ((with_reducible refine gate_callee (f := 19) rfl ?_); refine goesL_ (some 28) rfl rfl Tryd.func19 (by kernel_rfl) rfl #[.agg #[.int .i64 t236, .int .i64 t237, .int .i64 1], .slice Ao21 x5_1.length co21] rfl (by (try simp only [List.map_toArray, List.map_cons, List.map_nil]); first | done | rfl | (simp only [List.length_drop, List.length_take]; rfl)) ?_; (with_reducible refine (rotate_Drop.calls k1 t236 t237 1 _ _ x5_1 t248 _ ?side1 ?side2 A17.out).mono ?_); (case side1 => repeat (first | exact (Kd.R_reads' HO_5.out).2.2 | (with_reducible refine Kd.C_alloc ?_ _) | (with_reducible refine Kd.C_drewN ?_ _) | (with_reducible refine Kd.C_drew ?_))); (case side2 => exact (Kd.R_reads' HO_5.out).2.1); rintro e w22 ⟨v249, rfl, ho0, hb⟩; refine ⟨_, rfl, ?_⟩; have n0_ := Aside0.mk (Kd.R_elder' (by (with_reducible repeat (first | apply Kd.R_alloc | apply Kd.R_drewN | apply Kd.R_drew)); exact HO_5.out) (Kd.R_base ho0) hb); have n1_ := Aside0.mk (Kd.R_lower (Kd.R_new' ho0 (Kd.R_lt (by (with_reducible repeat (first | apply Kd.R_alloc | apply Kd.R_drewN | apply Kd.R_drew)); exact HO_5.out))) (below_size (by repeat (first | (with_reducible first | exact HB.out | apply below_alloc | apply pw_below_drewN | apply below_drew1 | refine below_set ?_ (IsS54.ge HI235.out) | refine below_set ?_ GE240.out) | exact HB.out)))); have n2_ := Aside0.mk (blk_below (g := gb240) (o := .cells #[.int .i64 t236, .int .i64 t237, .int .i64 1] 23 (0, 0)) (by (with_reducible repeat (first | refine blk_drewN ?_ _ | refine blk_drew ?_ | refine blk_alloc ?_ _)); exact BK240.out) hb); have n3_ := Aside0.mk (IsS54.below (by repeat (first | (with_reducible first | exact HI235.out | apply IsS54.alloc | apply IsS54.drewN | apply IsS54.drew | apply IsS54.set_1 | refine IsS54.far ?_ NB235_240.out _) | exact HI235.out)) hb); have n4_ := Aside0.mk (below_step (by repeat (first | (with_reducible first | exact HB.out | apply below_alloc | apply pw_below_drewN | apply below_drew1 | refine below_set ?_ (IsS54.ge HI235.out) | refine below_set ?_ GE240.out) | exact HB.out)) hb); clear HO_5; clear BK240; clear HI235; clear HB; have HO_5 := n0_; have HO250 := n1_; have BK240 := n2_; have HI235 := n3_; have HB := n4_; clear n0_ n1_ n2_ n3_ n4_; (try clear hb); (try clear hb2); (try clear hk); (try clear hi); (try clear ho0)))
        (try simp only [Act.put, List.setIfInBounds_toArray, List.set_cons_zero, List.set_cons_succ])
        go_cut [60] (fun v60 wc => ∃ (kq : Nat) (x60_17 : Bool), v60 = .bool x60_17 ∧ Aside0 (kauditlaw26_RotateKeeps.j1 kq x5_1 t248 x60_17 = some r) ∧ Aside0 (kq ≤ k1) ∧ Aside0 (Kd.R (Kd.int .i64) 3 wc w.heap.size (fun k_ => some k_ ≠ (v249 : Value).ownBlock) (.slice Ao21 x5_1.length co21) x5_1) ∧ Aside0 (Kd.R (Kd.int .i64) 3 wc w.heap.size (fun k_ => some k_ ≠ ((.slice Ao21 x5_1.length co21) : Value).ownBlock) v249 t248) ∧ Aside0 (wc.heap[gb240]? = some (.cells #[.int .i64 t236, .int .i64 t237, .int .i64 1] 23 (0, 0))) ∧ Aside0 (Below w.heap.size w wc))
        case first =>
          have H := HC18.out
          clear HC18
          by_cases c23 : (wrap64 ((wrap64 ((x5_1.length : Int) - (t248.length : Int))) + 1)) > t237
          · rw [if_pos c23] at H
            have c23b0 : decide (t237 < (wrap64 ((wrap64 ((x5_1.length : Int) - (t248.length : Int))) + 1))) = true := decide_eq_true c23
            clear c23
            (first | rw [c23b0] | (simp only [i64_w, i32_w]; rw [c23b0]) | skip)
            have H' := Aside0.mk H
            clear H
            obtain ⟨Ao24, co24, eo24⟩ := Kd.R_slice HO250.out
            subst eo24
            have hnb25 := NB240_235.out
            have hnc25 := NB235_240.out
            have hcz26_0 : w22.cell? ⟨gb240, 0, none⟩ = some (.int .i64 t236) := (blk_cell BK240.out 0).trans rfl
            have hcz26_1 : w22.cell? ⟨gb240, 1, none⟩ = some (.int .i64 t237) := (blk_cell BK240.out 1).trans rfl
            have hcz26_2 : w22.cell? ⟨gb240, 2, none⟩ = some (.int .i64 1) := (blk_cell BK240.out 2).trans rfl
            have hfz26_0 := blk_frozen BK240.out 0
            have hfz26_1 := blk_frozen BK240.out 1
            have hfz26_2 := blk_frozen BK240.out 2
            go_wp2
            go_meet
            case rel => exact ⟨_, (true), (by first | rfl | (simp; done) | (simp [*]; done)), H', ⟨by have := HK1.out; first | omega | exact Nat.le_refl _⟩, ⟨by (with_reducible repeat (first | apply Kd.R_alloc | apply Kd.R_drewN | apply Kd.R_drew)); exact Kd.R_mono HO_5.out (fun _ hk => hk.2)⟩, ⟨by (with_reducible repeat (first | apply Kd.R_alloc | apply Kd.R_drewN | apply Kd.R_drew)); exact Kd.R_mono HO250.out (fun _ hk => hk.2)⟩, ⟨by (with_reducible repeat (first | refine blk_drewN ?_ _ | refine blk_drew ?_ | refine blk_alloc ?_ _)); exact BK240.out⟩, ⟨by repeat (first | (with_reducible first | exact HB.out | apply below_alloc | apply pw_below_drewN | apply below_drew1 | refine below_set ?_ (IsS54.ge HI235.out) | refine below_set ?_ GE240.out) | exact HB.out)⟩⟩
          · rw [if_neg c23] at H
            have c23b0 : decide (t237 < (wrap64 ((wrap64 ((x5_1.length : Int) - (t248.length : Int))) + 1))) = false := decide_eq_false c23
            clear c23
            (first | rw [c23b0] | (simp only [i64_w, i32_w]; rw [c23b0]) | skip)
            by_cases c27 : (t248.length : Int) > (x5_1.length : Int)
            · rw [if_pos c27] at H
              have c27b0 : decide ((x5_1.length : Int) < (t248.length : Int)) = true := decide_eq_true c27
              have c27b1 : decide (x5_1.length < t248.length) = true := decide_eq_true (Int.ofNat_lt.mp c27)
              clear c27
              have H' := Aside0.mk H
              clear H
              obtain ⟨Ao28, co28, eo28⟩ := Kd.R_slice HO250.out
              subst eo28
              have hnb29 := NB240_235.out
              have hnc29 := NB235_240.out
              have hcz30_0 : w22.cell? ⟨gb240, 0, none⟩ = some (.int .i64 t236) := (blk_cell BK240.out 0).trans rfl
              have hcz30_1 : w22.cell? ⟨gb240, 1, none⟩ = some (.int .i64 t237) := (blk_cell BK240.out 1).trans rfl
              have hcz30_2 : w22.cell? ⟨gb240, 2, none⟩ = some (.int .i64 1) := (blk_cell BK240.out 2).trans rfl
              have hfz30_0 := blk_frozen BK240.out 0
              have hfz30_1 := blk_frozen BK240.out 1
              have hfz30_2 := blk_frozen BK240.out 2
              go_wp2
              go_meet
              case rel => exact ⟨_, (true), (by first | rfl | (simp; done) | (simp [*]; done)), H', ⟨by have := HK1.out; first | omega | exact Nat.le_refl _⟩, ⟨by (with_reducible repeat (first | apply Kd.R_alloc | apply Kd.R_drewN | apply Kd.R_drew)); exact Kd.R_mono HO_5.out (fun _ hk => hk.2)⟩, ⟨by (with_reducible repeat (first | apply Kd.R_alloc | apply Kd.R_drewN | apply Kd.R_drew)); exact Kd.R_mono HO250.out (fun _ hk => hk.2)⟩, ⟨by (with_reducible repeat (first | refine blk_drewN ?_ _ | refine blk_drew ?_ | refine blk_alloc ?_ _)); exact BK240.out⟩, ⟨by repeat (first | (with_reducible first | exact HB.out | apply below_alloc | apply pw_below_drewN | apply below_drew1 | refine below_set ?_ (IsS54.ge HI235.out) | refine below_set ?_ GE240.out) | exact HB.out)⟩⟩
            · rw [if_neg c27] at H
              have c27b0 : decide ((x5_1.length : Int) < (t248.length : Int)) = false := decide_eq_false c27
              have c27b1 : decide (x5_1.length < t248.length) = false := decide_eq_false (fun h => c27 (Int.ofNat_lt.mpr h))
              clear c27
              by_cases c31 : (t248.length : Int) > 0
              · rw [if_pos c31] at H
                have c31b0 : decide (0 < (t248.length : Int)) = true := decide_eq_true c31
                have c31b1 : decide (0 < t248.length) = true := decide_eq_true (by omega)
                clear c31
                have H' := Aside0.mk H
                clear H
                obtain ⟨Ao32, co32, eo32⟩ := Kd.R_slice HO250.out
                subst eo32
                have hnb33 := NB240_235.out
                have hnc33 := NB235_240.out
                have hcz34_0 : w22.cell? ⟨gb240, 0, none⟩ = some (.int .i64 t236) := (blk_cell BK240.out 0).trans rfl
                have hcz34_1 : w22.cell? ⟨gb240, 1, none⟩ = some (.int .i64 t237) := (blk_cell BK240.out 1).trans rfl
                have hcz34_2 : w22.cell? ⟨gb240, 2, none⟩ = some (.int .i64 1) := (blk_cell BK240.out 2).trans rfl
                have hfz34_0 := blk_frozen BK240.out 0
                have hfz34_1 := blk_frozen BK240.out 1
                have hfz34_2 := blk_frozen BK240.out 2
                go_wp2
                go_meet
                case rel => exact ⟨_, (((wrap64 ((wrap64 ((x5_1.length : Int) - (t248.length : Int))) + 1)) != t237)), (by first | rfl | (simp; done) | (simp [*]; done)), H', ⟨by have := HK1.out; first | omega | exact Nat.le_refl _⟩, ⟨by (with_reducible repeat (first | apply Kd.R_alloc | apply Kd.R_drewN | apply Kd.R_drew)); exact Kd.R_mono HO_5.out (fun _ hk => hk.2)⟩, ⟨by (with_reducible repeat (first | apply Kd.R_alloc | apply Kd.R_drewN | apply Kd.R_drew)); exact Kd.R_mono HO250.out (fun _ hk => hk.2)⟩, ⟨by (with_reducible repeat (first | refine blk_drewN ?_ _ | refine blk_drew ?_ | refine blk_alloc ?_ _)); exact BK240.out⟩, ⟨by repeat (first | (with_reducible first | exact HB.out | apply below_alloc | apply pw_below_drewN | apply below_drew1 | refine below_set ?_ (IsS54.ge HI235.out) | refine below_set ?_ GE240.out) | exact HB.out)⟩⟩
              · rw [if_neg c31] at H
                have c31b0 : decide (0 < (t248.length : Int)) = false := decide_eq_false c31
                have c31b1 : decide (0 < t248.length) = false := decide_eq_false (by omega)
                clear c31
                have H' := Aside0.mk H
                clear H
                obtain ⟨Ao35, co35, eo35⟩ := Kd.R_slice HO250.out
                subst eo35
                have hnb36 := NB240_235.out
                have hnc36 := NB235_240.out
                have hcz37_0 : w22.cell? ⟨gb240, 0, none⟩ = some (.int .i64 t236) := (blk_cell BK240.out 0).trans rfl
                have hcz37_1 : w22.cell? ⟨gb240, 1, none⟩ = some (.int .i64 t237) := (blk_cell BK240.out 1).trans rfl
                have hcz37_2 : w22.cell? ⟨gb240, 2, none⟩ = some (.int .i64 1) := (blk_cell BK240.out 2).trans rfl
                have hfz37_0 := blk_frozen BK240.out 0
                have hfz37_1 := blk_frozen BK240.out 1
                have hfz37_2 := blk_frozen BK240.out 2
                go_wp2
                go_meet
                case rel => exact ⟨_, (false), (by first | rfl | (simp; done) | (simp [*]; done)), H', ⟨by have := HK1.out; first | omega | exact Nat.le_refl _⟩, ⟨by (with_reducible repeat (first | apply Kd.R_alloc | apply Kd.R_drewN | apply Kd.R_drew)); exact Kd.R_mono HO_5.out (fun _ hk => hk.2)⟩, ⟨by (with_reducible repeat (first | apply Kd.R_alloc | apply Kd.R_drewN | apply Kd.R_drew)); exact Kd.R_mono HO250.out (fun _ hk => hk.2)⟩, ⟨by (with_reducible repeat (first | refine blk_drewN ?_ _ | refine blk_drew ?_ | refine blk_alloc ?_ _)); exact BK240.out⟩, ⟨by repeat (first | (with_reducible first | exact HB.out | apply below_alloc | apply pw_below_drewN | apply below_drew1 | refine below_set ?_ (IsS54.ge HI235.out) | refine below_set ?_ GE240.out) | exact HB.out)⟩⟩
        case rest =>
          clear HC18
          try clear c1
          try clear c2
          try clear p2
          try clear c3
          try clear c5
          try clear p6
          try clear c8
          try clear c9
          try clear c10
          try clear c11
          try clear c11b0
          try clear c17
          try clear c19
          try clear c21
          try clear c23
          try clear c23b0
          try clear c25
          try clear c27
          try clear c27b0
          try clear c27b1
          try clear c29
          try clear c31
          try clear c31b0
          try clear c31b1
          try clear c33
          try clear c36
          try clear hcz20_0
          try clear hcz20_1
          try clear hcz20_2
          try clear hcz26_0
          try clear hcz26_1
          try clear hcz26_2
          try clear hcz30_0
          try clear hcz30_1
          try clear hcz30_2
          try clear hcz34_0
          try clear hcz34_1
          try clear hcz34_2
          try clear hcz37_0
          try clear hcz37_1
          try clear hcz37_2
          try clear hcz9_0
          try clear hcz9_1
          try clear hcz9_2
          try clear hfz20_0
          try clear hfz20_1
          try clear hfz20_2
          try clear hfz26_0
          try clear hfz26_1
          try clear hfz26_2
          try clear hfz30_0
          try clear hfz30_1
          try clear hfz30_2
          try clear hfz34_0
          try clear hfz34_1
          try clear hfz34_2
          try clear hfz37_0
          try clear hfz37_1
          try clear hfz37_2
          try clear hfz9_0
          try clear hfz9_1
          try clear hfz9_2
          try clear p2
          obtain ⟨kq, x60_17, rfl, HA, HJ17, HO_5, HO_7, BK240, HB⟩ := hcut
          cases kq with
          | zero => exact absurd HA.out (by simp [kauditlaw26_RotateKeeps.j1])
          | succ kj17 =>
            have H := HA.out
            clear HA
            simp only [kauditlaw26_RotateKeeps.j1] at H
            by_cases c38 : x60_17 = true
            · subst c38
              have H1 : (some false) = some r := by rw [if_pos rfl] at H; exact H
              clear H
              have H := H1
              clear H1
              obtain rfl := Option.some.inj H
              go_wp2
              go_ret
              exact ⟨by first | rfl | (simp [errW_none, errW_some] <;> rfl) | (simp [*, errW_none, errW_some] <;> rfl), by repeat (first | (with_reducible first | exact HB.out | apply below_alloc | apply pw_below_drewN | apply below_drew1 | refine below_set ?_ GE240.out) | exact HB.out)⟩
            · replace c38 := Bool.eq_false_iff.mpr c38
              subst c38
              have H1 : (kauditlaw26_RotateKeeps.l1 kj17 x5_1 t248 (t248.length : Int) 0) = some r := by rw [if_neg (show ¬ (false = true) by decide)] at H; exact H
              clear H
              have H := H1
              clear H1
              have H' := Aside0.mk H
              clear H
              obtain ⟨Ao39, co39, eo39⟩ := Kd.R_slice HO_7.out
              subst eo39
              go_wp2
              go_loopg [63] kj17 (fun kq v63 w' => ∃ (x63_3 : Int), v63 = .int .i64 x63_3 ∧ Aside0 (kauditlaw26_RotateKeeps.l1 kq x5_1 t248 (t248.length : Int) x63_3 = some r) ∧ Aside0 (kq ≤ kj17) ∧ Aside0 (Kd.R (Kd.int .i64) 3 w' w.heap.size (fun k_ => some k_ ≠ ((.slice Ao39 t248.length co39) : Value).ownBlock) (.slice Ao21 x5_1.length co21) x5_1) ∧ Aside0 (Kd.R (Kd.int .i64) 3 w' w.heap.size (fun k_ => some k_ ≠ ((.slice Ao21 x5_1.length co21) : Value).ownBlock) (.slice Ao39 t248.length co39) t248) ∧ Aside0 (w'.heap[gb240]? = some (.cells #[.int .i64 t236, .int .i64 t237, .int .i64 1] 23 (0, 0))) ∧ Aside0 (Below w.heap.size w w'))
              case atStart => exact ⟨(0), (by first | rfl | (simp; done) | (simp [*]; done)), H', ⟨Nat.le_refl _⟩, ⟨by (with_reducible repeat (first | apply Kd.R_alloc | apply Kd.R_drewN | apply Kd.R_drew)); exact HO_5.out⟩, ⟨by (with_reducible repeat (first | apply Kd.R_alloc | apply Kd.R_drewN | apply Kd.R_drew)); exact HO_7.out⟩, ⟨by (with_reducible repeat (first | refine blk_drewN ?_ _ | refine blk_drew ?_ | refine blk_alloc ?_ _)); exact BK240.out⟩, ⟨by repeat (first | (with_reducible first | exact HB.out | apply below_alloc | apply pw_below_drewN | apply below_drew1 | refine below_set ?_ GE240.out) | exact HB.out)⟩⟩
              case round =>
                clear H'
                try clear c1
                try clear c2
                try clear p2
                try clear c3
                try clear c5
                try clear p6
                try clear c8
                try clear c9
                try clear c10
                try clear c11
                try clear c11b0
                try clear c17
                try clear c19
                try clear c21
                try clear c23
                try clear c23b0
                try clear c25
                try clear c27
                try clear c27b0
                try clear c27b1
                try clear c29
                try clear c31
                try clear c31b0
                try clear c31b1
                try clear c33
                try clear c36
                try clear c38
                try clear hcz20_0
                try clear hcz20_1
                try clear hcz20_2
                try clear hcz26_0
                try clear hcz26_1
                try clear hcz26_2
                try clear hcz30_0
                try clear hcz30_1
                try clear hcz30_2
                try clear hcz34_0
                try clear hcz34_1
                try clear hcz34_2
                try clear hcz37_0
                try clear hcz37_1
                try clear hcz37_2
                try clear hcz9_0
                try clear hcz9_1
                try clear hcz9_2
                try clear hfz20_0
                try clear hfz20_1
                try clear hfz20_2
                try clear hfz26_0
                try clear hfz26_1
                try clear hfz26_2
                try clear hfz30_0
                try clear hfz30_1
                try clear hfz30_2
                try clear hfz34_0
                try clear hfz34_1
                try clear hfz34_2
                try clear hfz37_0
                try clear hfz37_1
                try clear hfz37_2
                try clear hfz9_0
                try clear hfz9_1
                try clear hfz9_2
                try clear p2
                try clear p6
                obtain ⟨x63_3, rfl, HA, HK3, HO_5, HO_61, BK240, HB⟩ := hrel
                cases gk with
                | zero => exact absurd HA.out (by simp [kauditlaw26_RotateKeeps.l1])
                | succ k3 =>
                  have H := HA.out
                  clear HA
                  simp only [kauditlaw26_RotateKeeps.l1] at H
                  by_cases c40 : x63_3 < (t248.length : Int)
                  · rw [if_pos c40] at H
                    have c40b0 : decide (x63_3 < (t248.length : Int)) = true := decide_eq_true c40
                    clear c40
                    by_cases c41 : 0 ≤ x63_3
                    · rw [if_pos c41] at H
                      have c41b0 : decide (0 ≤ x63_3) = true := decide_eq_true c41
                      clear c41
                      by_cases c42 : x63_3 < (t248.length : Int)
                      · rw [if_pos c42] at H
                        have c42b0 : decide (x63_3 < (t248.length : Int)) = true := decide_eq_true c42
                        clear c42
                        by_cases c43 : x63_3 < (x5_1.length : Int)
                        · rw [if_pos c43] at H
                          have c43b0 : decide (x63_3 < (x5_1.length : Int)) = true := decide_eq_true c43
                          clear c43
                          by_cases c44 : (rd t248 x63_3) = (rd x5_1 x63_3)
                          · rw [if_pos c44] at H
                            have c44b0 : ((rd t248 x63_3) == (rd x5_1 x63_3)) = true := beq_iff_eq.mpr c44
                            have c44b1 : ((rd t248 x63_3) != (rd x5_1 x63_3)) = false := bne_eq_false_iff_eq.mpr c44
                            clear c44
                            have H' := Aside0.mk H
                            clear H
                            have p251 : 0 ≤ (x63_3 : Int) := of_decide_eq_true (by first | (with_reducible assumption) | assumption)
                            have q251 : x63_3 < (t248.length : Int) := of_decide_eq_true (by first | (with_reducible assumption) | assumption)
                            obtain ⟨ad251, e251, hx251_0⟩ := Kd.at_int (Kd.R_reads' HO_61.out).2.2 x63_3 p251 q251
                            cases e251
                            replace p251 := eq_true p251
                            replace q251 := eq_true q251
                            have p252 : 0 ≤ (x63_3 : Int) := of_decide_eq_true (by first | (with_reducible assumption) | assumption)
                            have q252 : x63_3 < (x5_1.length : Int) := of_decide_eq_true (by first | (with_reducible assumption) | assumption)
                            obtain ⟨ad252, e252, hx252_0⟩ := Kd.at_int (Kd.R_reads' HO_5.out).2.2 x63_3 p252 q252
                            cases e252
                            replace p252 := eq_true p252
                            replace q252 := eq_true q252
                            go_wp2
                            go_roundg k3
                            case measure => have := HK1.out; have := HJ17.out; have := HK3.out; omega
                            case rel => exact ⟨(wrap64 (x63_3 + 1)), (by first | rfl | (simp; done) | (simp [*]; done)), H', ⟨by have := HK1.out; have := HJ17.out; have := HK3.out; omega⟩, ⟨by (with_reducible repeat (first | apply Kd.R_alloc | apply Kd.R_drewN | apply Kd.R_drew)); exact HO_5.out⟩, ⟨by (with_reducible repeat (first | apply Kd.R_alloc | apply Kd.R_drewN | apply Kd.R_drew)); exact HO_61.out⟩, ⟨by (with_reducible repeat (first | refine blk_drewN ?_ _ | refine blk_drew ?_ | refine blk_alloc ?_ _)); exact BK240.out⟩, ⟨by repeat (first | (with_reducible first | exact HB.out | apply below_alloc | apply pw_below_drewN | apply below_drew1 | refine below_set ?_ GE240.out) | exact HB.out)⟩⟩
                          · rw [if_neg c44] at H
                            have c44b0 : ((rd t248 x63_3) == (rd x5_1 x63_3)) = false := beq_eq_false_iff_ne.mpr c44
                            have c44b1 : ((rd t248 x63_3) != (rd x5_1 x63_3)) = true := bne_iff_ne.mpr c44
                            obtain rfl := Option.some.inj H
                            have p251 : 0 ≤ (x63_3 : Int) := of_decide_eq_true (by first | (with_reducible assumption) | assumption)
                            have q251 : x63_3 < (t248.length : Int) := of_decide_eq_true (by first | (with_reducible assumption) | assumption)
                            obtain ⟨ad251, e251, hx251_0⟩ := Kd.at_int (Kd.R_reads' HO_61.out).2.2 x63_3 p251 q251
                            cases e251
                            replace p251 := eq_true p251
                            replace q251 := eq_true q251
                            have p252 : 0 ≤ (x63_3 : Int) := of_decide_eq_true (by first | (with_reducible assumption) | assumption)
                            have q252 : x63_3 < (x5_1.length : Int) := of_decide_eq_true (by first | (with_reducible assumption) | assumption)
                            obtain ⟨ad252, e252, hx252_0⟩ := Kd.at_int (Kd.R_reads' HO_5.out).2.2 x63_3 p252 q252
                            cases e252
                            replace p252 := eq_true p252
                            replace q252 := eq_true q252
                            go_wp2
                            go_ret
                            exact ⟨by first | rfl | (simp [errW_none, errW_some] <;> rfl) | (simp [*, errW_none, errW_some] <;> rfl), by repeat (first | (with_reducible first | exact HB.out | apply below_alloc | apply pw_below_drewN | apply below_drew1 | refine below_set ?_ GE240.out) | exact HB.out)⟩
                        · rw [if_neg c43] at H
                          exact absurd H (by simp)
                      · rw [if_neg c42] at H
                        exact absurd H (by simp)
                    · rw [if_neg c41] at H
                      exact absurd H (by simp)
                  · rw [if_neg c40] at H
                    have c40b0 : decide (x63_3 < (t248.length : Int)) = false := decide_eq_false c40
                    clear c40
                    replace H := Option.bind_eq_some_iff.mp H
                    obtain ⟨t253, A450, H⟩ := H
                    replace H : (some t253) = some r := H
                    have A45 := Aside0.mk A450
                    clear A450
                    obtain rfl := Option.some.inj H
                    go_wp2_with (first | ((with_reducible refine gate_callee (f := 16) rfl ?_); refine goesL_ (some 75) rfl rfl Tryd.func16 (by kernel_rfl) rfl #[] rfl (by (try simp only [List.map_toArray, List.map_cons, List.map_nil]); first | done | rfl | (simp only [List.length_drop, List.length_take]; rfl)) ?_; (with_reducible refine (kauditlaw26_begun.calls k3  t253 _ ?side1 A45.out).mono ?_); (case side1 => exact TabOk.below HT.out (by repeat (first | (with_reducible first | exact HB.out | apply below_alloc | apply pw_below_drewN | apply below_drew1 | refine below_set ?_ GE240.out) | exact HB.out))); rintro e w46 ⟨rfl, hb⟩; refine ⟨_, rfl, ?_⟩; have n0_ := Aside0.mk (Kd.R_below (by (with_reducible repeat (first | apply Kd.R_alloc | apply Kd.R_drewN | apply Kd.R_drew)); exact HO_5.out) hb); have n1_ := Aside0.mk (Kd.R_below (by (with_reducible repeat (first | apply Kd.R_alloc | apply Kd.R_drewN | apply Kd.R_drew)); exact HO_61.out) hb); have n2_ := Aside0.mk (blk_below (g := gb240) (o := .cells #[.int .i64 t236, .int .i64 t237, .int .i64 1] 23 (0, 0)) (by (with_reducible repeat (first | refine blk_drewN ?_ _ | refine blk_drew ?_ | refine blk_alloc ?_ _)); exact BK240.out) hb); have n3_ := Aside0.mk (below_step (by repeat (first | (with_reducible first | exact HB.out | apply below_alloc | apply pw_below_drewN | apply below_drew1 | refine below_set ?_ GE240.out) | exact HB.out)) hb); clear HO_5; clear HO_61; clear BK240; clear HB; have HO_5 := n0_; have HO_61 := n1_; have BK240 := n2_; have HB := n3_; clear n0_ n1_ n2_ n3_; (try clear hb); (try clear hb2); (try clear hk); (try clear hi)))
                    go_ret
                    exact ⟨by first | rfl | (simp [errW_none, errW_some] <;> rfl) | (simp [*, errW_none, errW_some] <;> rfl), by repeat (first | (with_reducible first | exact HB.out | apply below_alloc | apply pw_below_drewN | apply below_drew1 | refine below_set ?_ GE240.out) | exact HB.out)⟩

/-! ### rotate_Packed: function 23 -/
def rotate_Packed.f (a0 : Int) : Option (ByteArray) := (rotate_Name.f a0).bind fun t254 => (if t254.toList = ([] : List UInt8) then (some (⟨#[]⟩ : ByteArray)) else (if t254.size + 2 ≤ 9223372036854775807 then (some (t254 ++ (⟨#[46, 122]⟩ : ByteArray))) else (none)))
set_option maxHeartbeats 8000000 in
set_option maxRecDepth 100000 in
theorem rotate_Packed.calls (a0 : Int) (r : ByteArray) (w : World) (hT : TabOk w) (h : rotate_Packed.f a0 = some r) :
    Calls Tryd.prog 23 #[.int .i64 a0] w fun e w' => e = .returned (.string r) ∧ Below w.heap.size w w' := by
  have HT := Aside0.mk hT
  clear hT
  have HB := Aside0.mk (Below.refl w.heap.size w)
  have H : ((rotate_Name.f a0).bind fun t254 => (if t254.toList = ([] : List UInt8) then (some (⟨#[]⟩ : ByteArray)) else (if t254.size + 2 ≤ 9223372036854775807 then (some (t254 ++ (⟨#[46, 122]⟩ : ByteArray))) else (none)))) = some r := h
  clear h
  replace H := Option.bind_eq_some_iff.mp H
  obtain ⟨t254, A20, H⟩ := H
  replace H : (if t254.toList = ([] : List UInt8) then (some (⟨#[]⟩ : ByteArray)) else (if t254.size + 2 ≤ 9223372036854775807 then (some (t254 ++ (⟨#[46, 122]⟩ : ByteArray))) else (none))) = some r := H
  have A2 := Aside0.mk A20
  clear A20
  by_cases c3 : t254.toList = ([] : List UInt8)
  · rw [if_pos c3] at H
    have c3b0 : (t254.toList == ([] : List UInt8)) = true := beq_iff_eq.mpr c3
    have c3b1 : (t254.toList != ([] : List UInt8)) = false := bne_eq_false_iff_eq.mpr c3
    clear c3
    obtain rfl := Option.some.inj H
    go_enter Tryd.func23, Tryd.ntmps23
    go_wp2_with (first | ((with_reducible refine gate_callee (f := 22) rfl ?_); refine goesL_ (some 5) rfl rfl Tryd.func22 (by kernel_rfl) rfl #[.int .i64 a0] rfl (by (try simp only [List.map_toArray, List.map_cons, List.map_nil]); first | done | rfl | (simp only [List.length_drop, List.length_take]; rfl)) ?_; (with_reducible refine (rotate_Name.calls a0 t254 _ ?side1 A2.out).mono ?_); (case side1 => exact TabOk.below HT.out (by repeat (first | (with_reducible first | exact HB.out | apply below_alloc | apply pw_below_drewN | apply below_drew1) | exact HB.out))); rintro e w4 ⟨rfl, hb⟩; refine ⟨_, rfl, ?_⟩; have n0_ := Aside0.mk (below_step (by repeat (first | (with_reducible first | exact HB.out | apply below_alloc | apply pw_below_drewN | apply below_drew1) | exact HB.out)) hb); clear HB; have HB := n0_; clear n0_; (try clear hb); (try clear hb2); (try clear hk); (try clear hi)))
    go_ret
    exact ⟨by first | rfl | (simp [errW_none, errW_some] <;> rfl) | (simp [*, errW_none, errW_some] <;> rfl), by repeat (first | (with_reducible first | exact HB.out | apply below_alloc | apply pw_below_drewN | apply below_drew1) | exact HB.out)⟩
  · rw [if_neg c3] at H
    have c3b0 : (t254.toList == ([] : List UInt8)) = false := beq_eq_false_iff_ne.mpr c3
    have c3b1 : (t254.toList != ([] : List UInt8)) = true := bne_iff_ne.mpr c3
    by_cases c5 : t254.size + 2 ≤ 9223372036854775807
    · rw [if_pos c5] at H
      have c5b0 := eq_true c5
      have c5b1 : decide (t254.size + 2 ≤ 9223372036854775807) = true := decide_eq_true c5
      try have c5b2 : (9223372036854775807 < t254.size + 2) = False := eq_false (Nat.not_lt.2 c5)
      obtain rfl := Option.some.inj H
      go_enter Tryd.func23, Tryd.ntmps23
      go_wp2_with (first | ((with_reducible refine gate_callee (f := 22) rfl ?_); refine goesL_ (some 5) rfl rfl Tryd.func22 (by kernel_rfl) rfl #[.int .i64 a0] rfl (by (try simp only [List.map_toArray, List.map_cons, List.map_nil]); first | done | rfl | (simp only [List.length_drop, List.length_take]; rfl)) ?_; (with_reducible refine (rotate_Name.calls a0 t254 _ ?side1 A2.out).mono ?_); (case side1 => exact TabOk.below HT.out (by repeat (first | (with_reducible first | exact HB.out | apply below_alloc | apply pw_below_drewN | apply below_drew1) | exact HB.out))); rintro e w6 ⟨rfl, hb⟩; refine ⟨_, rfl, ?_⟩; have n0_ := Aside0.mk (below_step (by repeat (first | (with_reducible first | exact HB.out | apply below_alloc | apply pw_below_drewN | apply below_drew1) | exact HB.out)) hb); clear HB; have HB := n0_; clear n0_; (try clear hb); (try clear hb2); (try clear hk); (try clear hi)))
      go_ret
      exact ⟨by first | rfl | (simp [errW_none, errW_some] <;> rfl) | (simp [*, errW_none, errW_some] <;> rfl), by repeat (first | (with_reducible first | exact HB.out | apply below_alloc | apply pw_below_drewN | apply below_drew1) | exact HB.out)⟩
    · rw [if_neg c5] at H
      exact absurd H (by simp)

/-! ### kauditref26_Name: function 26 -/
mutual
def kauditref26_Name.j0 : Nat → Int → Bool → Option (ByteArray)
  | 0, _, _ => none
  | k + 1, x0, x11 => if x11 = true then (some (⟨#[]⟩ : ByteArray)) else ((some (([1000, 100, 10, 1] : List Int) : List Int)).bind fun y255 => (kauditref26_Name.l0 k x0 (⟨#[108, 111, 103, 45]⟩ : ByteArray) y255 (y255.length : Int) 0))
def kauditref26_Name.l0 : Nat → Int → ByteArray → List Int → Int → Int → Option (ByteArray)
  | 0, _, _, _, _, _ => none
  | k + 1, x0, x3, x12, x13, x14 => if x14 < x13 then (if 0 ≤ x14 then (if x14 < (x12.length : Int) then (if (rd x12 x14) = 0 then (none) else (if x3.size + (Utf8.encode (wrap32 (wrap64 (48 + (Int.tmod (wrap64 (Int.tdiv x0 (rd x12 x14))) 10))))).size ≤ 9223372036854775807 then (kauditref26_Name.l0 k x0 (x3 ++ (Utf8.encode (wrap32 (wrap64 (48 + (Int.tmod (wrap64 (Int.tdiv x0 (rd x12 x14))) 10)))))) x12 x13 (wrap64 (x14 + 1))) else (none))) else (none)) else (none)) else (some x3)
end
def kauditref26_Name.f (k : Nat) (a0 : Int) : Option (ByteArray) := if a0 < 1 then (kauditref26_Name.j0 k a0 true) else (kauditref26_Name.j0 k a0 (decide (a0 > 1000)))
theorem kauditref26_Name.mono_l : ∀ k, (∀ y0 y1, LeO (kauditref26_Name.j0 k y0 y1) (kauditref26_Name.j0 (k + 1) y0 y1)) ∧ (∀ y0 y1 y2 y3 y4, LeO (kauditref26_Name.l0 k y0 y1 y2 y3 y4) (kauditref26_Name.l0 (k + 1) y0 y1 y2 y3 y4))
  | 0 => ⟨fun _ _ r h => by simp [kauditref26_Name.j0] at h, fun _ _ _ _ _ r h => by simp [kauditref26_Name.l0] at h⟩
  | k + 1 => by
    obtain ⟨ih0, ih1⟩ := kauditref26_Name.mono_l k
    refine ⟨?_, ?_⟩
    · intro y0 y1
      unfold kauditref26_Name.j0
      repeat' first
      | (with_reducible exact ih0 _ _)
      | (with_reducible exact ih1 _ _ _ _ _)
      | (with_reducible exact LeO.refl _)
      | (with_reducible exact LeO.none _)
      | (with_reducible refine LeO.ite ?_ ?_)
      | (with_reducible refine LeO.bind ?_ (fun _ => ?_))
      | exact ih0 _ _
      | exact ih1 _ _ _ _ _
      | exact LeO.none _
      | refine LeO.ite ?_ ?_
      | refine LeO.bind ?_ (fun _ => ?_)
    · intro y0 y1 y2 y3 y4
      unfold kauditref26_Name.l0
      repeat' first
      | (with_reducible exact ih0 _ _)
      | (with_reducible exact ih1 _ _ _ _ _)
      | (with_reducible exact LeO.refl _)
      | (with_reducible exact LeO.none _)
      | (with_reducible refine LeO.ite ?_ ?_)
      | (with_reducible refine LeO.bind ?_ (fun _ => ?_))
      | exact ih0 _ _
      | exact ih1 _ _ _ _ _
      | exact LeO.none _
      | refine LeO.ite ?_ ?_
      | refine LeO.bind ?_ (fun _ => ?_)
theorem kauditref26_Name.mono : ∀ a0 k, LeO (kauditref26_Name.f k a0) (kauditref26_Name.f (k + 1) a0) := by
  intro a0 k
  obtain ⟨ih0, ih1⟩ := kauditref26_Name.mono_l k
  unfold kauditref26_Name.f
  repeat' first
      | (with_reducible exact ih0 _ _)
      | (with_reducible exact ih1 _ _ _ _ _)
      | (with_reducible exact LeO.refl _)
      | (with_reducible exact LeO.none _)
      | (with_reducible refine LeO.ite ?_ ?_)
      | (with_reducible refine LeO.bind ?_ (fun _ => ?_))
      | exact ih0 _ _
      | exact ih1 _ _ _ _ _
      | exact LeO.none _
      | refine LeO.ite ?_ ?_
      | refine LeO.bind ?_ (fun _ => ?_)
set_option maxHeartbeats 8000000 in
set_option maxRecDepth 100000 in
theorem kauditref26_Name.calls (k : Nat) (a0 : Int) (r : ByteArray) (w : World) (h : kauditref26_Name.f k a0 = some r) :
    Calls Tryd.prog 26 #[.int .i64 a0] w fun e w' => e = .returned (.string r) ∧ Below w.heap.size w w' := by
  have HB := Aside0.mk (Below.refl w.heap.size w)
  have H : (if a0 < 1 then (kauditref26_Name.j0 k a0 true) else (kauditref26_Name.j0 k a0 (decide (a0 > 1000)))) = some r := h
  clear h
  have HC2 := Aside0.mk H
  clear H
  go_enter Tryd.func26, Tryd.ntmps26
  go_upto_region 1 with (fail)
  go_cut [11] (fun v11 wc => ∃ (kq : Nat) (x11_1 : Bool), v11 = .bool x11_1 ∧ Aside0 (kauditref26_Name.j0 kq a0 x11_1 = some r) ∧ Aside0 (kq ≤ k) ∧ Aside0 (Below w.heap.size w wc))
  case first =>
    have H := HC2.out
    clear HC2
    by_cases c3 : a0 < 1
    · rw [if_pos c3] at H
      have c3b0 : decide (a0 < 1) = true := decide_eq_true c3
      clear c3
      (first | rw [c3b0] | (simp only [i64_w, i32_w]; rw [c3b0]) | skip)
      have H' := Aside0.mk H
      clear H
      go_wp2
      go_meet
      case rel => exact ⟨_, (true), (by first | rfl | (simp; done) | (simp [*]; done)), H', ⟨by first | omega | exact Nat.le_refl _⟩, ⟨by repeat (first | (with_reducible first | exact HB.out | apply below_alloc | apply pw_below_drewN | apply below_drew1) | exact HB.out)⟩⟩
    · rw [if_neg c3] at H
      have c3b0 : decide (a0 < 1) = false := decide_eq_false c3
      clear c3
      (first | rw [c3b0] | (simp only [i64_w, i32_w]; rw [c3b0]) | skip)
      have H' := Aside0.mk H
      clear H
      go_wp2
      go_meet
      case rel => exact ⟨_, (decide (a0 > 1000)), (by first | rfl | (simp; done) | (simp [*]; done)), H', ⟨by first | omega | exact Nat.le_refl _⟩, ⟨by repeat (first | (with_reducible first | exact HB.out | apply below_alloc | apply pw_below_drewN | apply below_drew1) | exact HB.out)⟩⟩
  case rest =>
    clear HC2
    try clear c2
    try clear p2
    try clear c3
    try clear c3b0
    obtain ⟨kq, x11_1, rfl, HA, HJ1, HB⟩ := hcut
    cases kq with
    | zero => exact absurd HA.out (by simp [kauditref26_Name.j0])
    | succ kj1 =>
      have H := HA.out
      clear HA
      simp only [kauditref26_Name.j0] at H
      by_cases c4 : x11_1 = true
      · subst c4
        have H1 : (some (⟨#[]⟩ : ByteArray)) = some r := by rw [if_pos rfl] at H; exact H
        clear H
        have H := H1
        clear H1
        obtain rfl := Option.some.inj H
        go_wp2
        go_ret
        exact ⟨by first | rfl | (simp [errW_none, errW_some] <;> rfl) | (simp [*, errW_none, errW_some] <;> rfl), by repeat (first | (with_reducible first | exact HB.out | apply below_alloc | apply pw_below_drewN | apply below_drew1) | exact HB.out)⟩
      · replace c4 := Bool.eq_false_iff.mpr c4
        subst c4
        have H1 : ((some (([1000, 100, 10, 1] : List Int) : List Int)).bind fun y255 => (kauditref26_Name.l0 kj1 a0 (⟨#[108, 111, 103, 45]⟩ : ByteArray) y255 (y255.length : Int) 0)) = some r := by rw [if_neg (show ¬ (false = true) by decide)] at H; exact H
        clear H
        have H := H1
        clear H1
        obtain ⟨y255, hy255⟩ : ∃ y_ : List Int, y_ = (([1000, 100, 10, 1] : List Int)) := ⟨_, rfl⟩
        replace H : (kauditref26_Name.l0 kj1 a0 (⟨#[108, 111, 103, 45]⟩ : ByteArray) y255 (y255.length : Int) 0) = some r := by first | (rw [hy255]; with_reducible exact H) | (have H2_ := (Option.bind_some _ _).symm.trans H; rw [hy255]; with_reducible exact H2_) | (have H2_ := (Option.bind_some _ _).symm.trans H; with_reducible exact H2_) | with_reducible exact H | (rw [hy255]; exact H) | exact H
        have Ny255 := Aside0.mk hy255
        clear hy255
        have H' := Aside0.mk H
        clear H
        go_wp2_with (first | ((with_reducible refine gate_dst (N := 12) rfl ?_); refine Kd.R_lit (Kd.int .i64) _ 3 ?hg (N := 12) ?hd (xs := ([1000, 100, 10, 1] : List Int)) (inner := [.int .i64 1000, .int .i64 100, .int .i64 10, .int .i64 1]) (ok := fun _ => True) (okp := fun _ => True) ?hr ?hp (fun _ hk => hk) trivial (Below.refl _ _) (Nat.le_refl _) (by simp) ?_; (case hd => rfl); (case hg => rfl); (case hr => first | (go_simp; done) | (go_simp; rfl)); (case hp => exact (Reps.one (show Kd.M (Kd.int .i64) _ _ _ 1000 [.int .i64 1000] from rfl) (Reps.one (show Kd.M (Kd.int .i64) _ _ _ 100 [.int .i64 100] from rfl) (Reps.one (show Kd.M (Kd.int .i64) _ _ _ 10 [.int .i64 10] from rfl) (Reps.one (show Kd.M (Kd.int .i64) _ _ _ 1 [.int .i64 1] from rfl) (Reps.none _ _)))))); intro v256 w5 ho6 hb hg_ hnew_; clear hg_ hnew_; (first | rw [← Ny255.out] at ho6 | (simp only [Int.reduceToNat] at ho6; rw [← Ny255.out] at ho6)); have n0_ := Aside0.mk (Kd.R_lower ho6 (below_size (by repeat (first | (with_reducible first | exact HB.out | apply below_alloc | apply pw_below_drewN | apply below_drew1) | exact HB.out)))); have n1_ := Aside0.mk (below_step (by repeat (first | (with_reducible first | exact HB.out | apply below_alloc | apply pw_below_drewN | apply below_drew1) | exact HB.out)) hb); clear HB; have HO257 := n0_; have HB := n1_; clear n0_ n1_; clear hb ho6; obtain ⟨Ao7, co7, eo7⟩ := Kd.R_slice HO257.out; subst eo7))
        go_loopg [3, 14] kj1 (fun kq v3 v14 w' => ∃ (x3_2 : ByteArray) (x14_2 : Int), v3 = .string x3_2 ∧ v14 = .int .i64 x14_2 ∧ Aside0 (kauditref26_Name.l0 kq a0 x3_2 y255 (y255.length : Int) x14_2 = some r) ∧ Aside0 (kq ≤ kj1) ∧ Aside0 (Kd.R (Kd.int .i64) 3 w' w.heap.size (fun _ => True) (.slice Ao7 y255.length co7) y255) ∧ Aside0 (Below w.heap.size w w'))
        case atStart => exact ⟨((⟨#[108, 111, 103, 45]⟩ : ByteArray)), (0), (by first | rfl | (simp; done) | (simp [*]; done)), (by first | rfl | (simp; done) | (simp [*]; done)), H', ⟨Nat.le_refl _⟩, ⟨by (with_reducible repeat (first | apply Kd.R_alloc | apply Kd.R_drewN | apply Kd.R_drew)); exact HO257.out⟩, ⟨by repeat (first | (with_reducible first | exact HB.out | apply below_alloc | apply pw_below_drewN | apply below_drew1) | exact HB.out)⟩⟩
        case round =>
          clear H'
          try clear c2
          try clear p2
          try clear c3
          try clear c3b0
          try clear c4
          try clear p2
          obtain ⟨x3_2, x14_2, rfl, rfl, HA, HK2, HO_12, HB⟩ := hrel
          cases gk with
          | zero => exact absurd HA.out (by simp [kauditref26_Name.l0])
          | succ k2 =>
            have H := HA.out
            clear HA
            simp only [kauditref26_Name.l0] at H
            by_cases c8 : x14_2 < (y255.length : Int)
            · rw [if_pos c8] at H
              have c8b0 : decide (x14_2 < (y255.length : Int)) = true := decide_eq_true c8
              clear c8
              by_cases c9 : 0 ≤ x14_2
              · rw [if_pos c9] at H
                have c9b0 : decide (0 ≤ x14_2) = true := decide_eq_true c9
                clear c9
                by_cases c10 : x14_2 < (y255.length : Int)
                · rw [if_pos c10] at H
                  have c10b0 : decide (x14_2 < (y255.length : Int)) = true := decide_eq_true c10
                  clear c10
                  by_cases c11 : (rd y255 x14_2) = 0
                  · rw [if_pos c11] at H
                    exact absurd H (by simp)
                  · rw [if_neg c11] at H
                    have c11b0 : ((rd y255 x14_2) == 0) = false := beq_eq_false_iff_ne.mpr c11
                    have c11b1 : ((rd y255 x14_2) != 0) = true := bne_iff_ne.mpr c11
                    by_cases c12 : x3_2.size + (Utf8.encode (wrap32 (wrap64 (48 + (Int.tmod (wrap64 (Int.tdiv a0 (rd y255 x14_2))) 10))))).size ≤ 9223372036854775807
                    · rw [if_pos c12] at H
                      have c12b0 := eq_true c12
                      have c12b1 : decide (x3_2.size + (Utf8.encode (wrap32 (wrap64 (48 + (Int.tmod (wrap64 (Int.tdiv a0 (rd y255 x14_2))) 10))))).size ≤ 9223372036854775807) = true := decide_eq_true c12
                      try have c12b2 : (9223372036854775807 < x3_2.size + (Utf8.encode (wrap32 (wrap64 (48 + (Int.tmod (wrap64 (Int.tdiv a0 (rd y255 x14_2))) 10))))).size) = False := eq_false (Nat.not_lt.2 c12)
                      have H' := Aside0.mk H
                      clear H
                      have p258 : 0 ≤ (x14_2 : Int) := of_decide_eq_true (by first | (with_reducible assumption) | assumption)
                      have q258 : x14_2 < (y255.length : Int) := of_decide_eq_true (by first | (with_reducible assumption) | assumption)
                      obtain ⟨ad258, e258, hx258_0⟩ := Kd.at_int (Kd.R_reads' HO_12.out).2.2 x14_2 p258 q258
                      cases e258
                      replace p258 := eq_true p258
                      replace q258 := eq_true q258
                      go_wp2
                      go_roundg k2
                      case measure => have := HJ1.out; have := HK2.out; omega
                      case rel => exact ⟨(x3_2 ++ (Utf8.encode (wrap32 (wrap64 (48 + (Int.tmod (wrap64 (Int.tdiv a0 (rd y255 x14_2))) 10)))))), (wrap64 (x14_2 + 1)), (by first | rfl | (simp; done) | (simp [*]; done)), (by first | rfl | (simp; done) | (simp [*]; done)), H', ⟨by have := HJ1.out; have := HK2.out; omega⟩, ⟨by (with_reducible repeat (first | apply Kd.R_alloc | apply Kd.R_drewN | apply Kd.R_drew)); exact HO_12.out⟩, ⟨by repeat (first | (with_reducible first | exact HB.out | apply below_alloc | apply pw_below_drewN | apply below_drew1) | exact HB.out)⟩⟩
                    · rw [if_neg c12] at H
                      exact absurd H (by simp)
                · rw [if_neg c10] at H
                  exact absurd H (by simp)
              · rw [if_neg c9] at H
                exact absurd H (by simp)
            · rw [if_neg c8] at H
              have c8b0 : decide (x14_2 < (y255.length : Int)) = false := decide_eq_false c8
              clear c8
              obtain rfl := Option.some.inj H
              go_wp2
              go_ret
              exact ⟨by first | rfl | (simp [errW_none, errW_some] <;> rfl) | (simp [*, errW_none, errW_some] <;> rfl), by repeat (first | (with_reducible first | exact HB.out | apply below_alloc | apply pw_below_drewN | apply below_drew1) | exact HB.out)⟩

end Go.Proofs.YtadjaakmpjhdhaaDoor.Q
