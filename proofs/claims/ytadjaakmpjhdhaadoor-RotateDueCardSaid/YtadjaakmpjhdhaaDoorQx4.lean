-- Printed by px.py: a changed copy of the kit's printer, with contracts of this session's own in it. Not trusted: Lean checks it.
import Derived.Test.YtadjaakmpjhdhaaDoorQx0
import Derived.Test.YtadjaakmpjhdhaaDoorQx1
import Derived.Test.YtadjaakmpjhdhaaDoorQx3
namespace Go.Proofs.YtadjaakmpjhdhaaDoor.Q
open Go.RowKit Go.Proofs.YtadjaakmpjhdhaaDoorW.PrintWords Go.Proofs.YtadjaakmpjhdhaaDoorW.PrintLast Go.Proofs.YtadjaakmpjhdhaaDoorW.PrintMore
attribute [local go_sem] max2_int min2_int max_two min_two max_three min_three max_four min_four   -- for this text's walks alone
set_option linter.unusedVariables false
set_option linter.unusedSimpArgs false

/-! ### kauditlaw26_RotateDue: function 3 -/
mutual
def kauditlaw26_RotateDue.l0 : Nat → Int → Int → List (S23) → Int → Int → Int → Int → Int → List Int → Int → Int → Int → Int → Option (Bool)
  | 0, _, _, _, _, _, _, _, _, _, _, _, _, _ => none
  | k + 1, x1, x2, x21, x22, x23, x158000, x158001, x158002, x161000, x161001, x166000, x166001, x166002 => if x23 < x22 then (if 0 ≤ x23 then (if x23 < (x21.length : Int) then ((kauditmill_Case_Pick.f x161000 x161001 (([0, 60, 64, 149, 150, 300] : List Int))).bind fun bt174 => ((kauditmill_Case_Pick.f x161000 bt174.2 (([1, 4, 150] : List Int))).bind fun bt179 => ((some (([(⟨x1, x2⟩ : S29), (⟨bt174.1, bt179.1⟩ : S29), (⟨x1, 1⟩ : S29), (⟨1, x2⟩ : S29), (⟨9223372036854775807, x2⟩ : S29), (⟨x1, (-9223372036854775808)⟩ : S29)] : List (S29)) : List (S29))).bind fun y181 => (kauditlaw26_RotateDue.l1 k x1 x2 x21 x22 x23 y181 (y181.length : Int) 0 x158000 x158001 x158002 x161000 bt179.2 x166000 x166001 x166002 ((rd_T23 x21 x23).f0) ((rd_T23 x21 x23).f1) ((rd_T23 x21 x23).f2))))) else (none)) else (none)) else ((rotate_Valid.f x158000 x158001 x158002).bind fun t188 => ((kauditref26_RotateValid.f x158000 x158001 x158002).bind fun t189 => (if (t188 == t189) = true then ((rotate_Valid.f x166000 x166001 x166002).bind fun t190 => (if t190 = true then ((kauditlaw26_begun.f k).bind fun t191 => (some t191)) else (some false))) else (some false))))
def kauditlaw26_RotateDue.l1 : Nat → Int → Int → List (S23) → Int → Int → List (S29) → Int → Int → Int → Int → Int → List Int → Int → Int → Int → Int → Int → Int → Int → Option (Bool)
  | 0, _, _, _, _, _, _, _, _, _, _, _, _, _, _, _, _, _, _, _ => none
  | k + 1, x1, x2, x21, x22, x23, x45, x46, x47, x158000, x158001, x158002, x161000, x161001, x166000, x166001, x166002, x171000, x171001, x171002 => if x47 < x46 then (if 0 ≤ x47 then (if x47 < (x45.length : Int) then ((rotate_Due.f x171000 x171001 x171002 ((rd_T29 x45 x47).f0) ((rd_T29 x45 x47).f1)).bind fun t186 => ((kauditref26_Due.f k x171000 x171001 x171002 ((rd_T29 x45 x47).f0) ((rd_T29 x45 x47).f1)).bind fun t187 => (if (t186 != t187) = true then (some false) else (kauditlaw26_RotateDue.l1 k x1 x2 x21 x22 x23 x45 x46 (wrap64 (x47 + 1)) x158000 x158001 x158002 x161000 x161001 x166000 x166001 x166002 x171000 x171001 x171002)))) else (none)) else (none)) else (kauditlaw26_RotateDue.l0 k x1 x2 x21 x22 (wrap64 (x23 + 1)) x158000 x158001 x158002 x161000 x161001 x166000 x166001 x166002)
end
def kauditlaw26_RotateDue.f (k : Nat) (a0_0 : Int) (a0_1 : Int) (a0_2 : Int) (a1 : Int) (a2 : Int) (l3 : List Int) : Option (Bool) := (kauditmill_New.f l3 30).bind fun bt158 => ((kauditmill_Case_Rotation.f bt158.1 bt158.2).bind fun bt161 => ((some (([(⟨a0_0, a0_1, a0_2⟩ : S23), (⟨bt161.1, bt161.2.1, bt161.2.2.1⟩ : S23)] : List (S23)) : List (S23))).bind fun y166 => (kauditlaw26_RotateDue.l0 k a1 a2 y166 (y166.length : Int) 0 a0_0 a0_1 a0_2 bt158.1 bt161.2.2.2 bt161.1 bt161.2.1 bt161.2.2.1)))
theorem kauditlaw26_RotateDue.mono_l : ∀ k, (∀ y0 y1 y2 y3 y4 y5 y6 y7 y8 y9 y10 y11 y12, LeO (kauditlaw26_RotateDue.l0 k y0 y1 y2 y3 y4 y5 y6 y7 y8 y9 y10 y11 y12) (kauditlaw26_RotateDue.l0 (k + 1) y0 y1 y2 y3 y4 y5 y6 y7 y8 y9 y10 y11 y12)) ∧ (∀ y0 y1 y2 y3 y4 y5 y6 y7 y8 y9 y10 y11 y12 y13 y14 y15 y16 y17 y18, LeO (kauditlaw26_RotateDue.l1 k y0 y1 y2 y3 y4 y5 y6 y7 y8 y9 y10 y11 y12 y13 y14 y15 y16 y17 y18) (kauditlaw26_RotateDue.l1 (k + 1) y0 y1 y2 y3 y4 y5 y6 y7 y8 y9 y10 y11 y12 y13 y14 y15 y16 y17 y18))
  | 0 => ⟨fun _ _ _ _ _ _ _ _ _ _ _ _ _ r h => by simp [kauditlaw26_RotateDue.l0] at h, fun _ _ _ _ _ _ _ _ _ _ _ _ _ _ _ _ _ _ _ r h => by simp [kauditlaw26_RotateDue.l1] at h⟩
  | k + 1 => by
    obtain ⟨ih0, ih1⟩ := kauditlaw26_RotateDue.mono_l k
    refine ⟨?_, ?_⟩
    · intro y0 y1 y2 y3 y4 y5 y6 y7 y8 y9 y10 y11 y12
      unfold kauditlaw26_RotateDue.l0
      repeat' first
      | (with_reducible exact ih0 _ _ _ _ _ _ _ _ _ _ _ _ _)
      | (with_reducible exact ih1 _ _ _ _ _ _ _ _ _ _ _ _ _ _ _ _ _ _ _)
      | (with_reducible exact kauditlaw26_begun.mono _)
      | (with_reducible exact kauditref26_Due.mono _ _ _ _ _ _)
      | (with_reducible exact LeO.refl _)
      | (with_reducible exact LeO.none _)
      | (with_reducible refine LeO.ite ?_ ?_)
      | (with_reducible refine LeO.bind ?_ (fun _ => ?_))
      | exact ih0 _ _ _ _ _ _ _ _ _ _ _ _ _
      | exact ih1 _ _ _ _ _ _ _ _ _ _ _ _ _ _ _ _ _ _ _
      | exact kauditlaw26_begun.mono _
      | exact kauditref26_Due.mono _ _ _ _ _ _
      | exact LeO.none _
      | refine LeO.ite ?_ ?_
      | refine LeO.bind ?_ (fun _ => ?_)
    · intro y0 y1 y2 y3 y4 y5 y6 y7 y8 y9 y10 y11 y12 y13 y14 y15 y16 y17 y18
      unfold kauditlaw26_RotateDue.l1
      repeat' first
      | (with_reducible exact ih0 _ _ _ _ _ _ _ _ _ _ _ _ _)
      | (with_reducible exact ih1 _ _ _ _ _ _ _ _ _ _ _ _ _ _ _ _ _ _ _)
      | (with_reducible exact kauditlaw26_begun.mono _)
      | (with_reducible exact kauditref26_Due.mono _ _ _ _ _ _)
      | (with_reducible exact LeO.refl _)
      | (with_reducible exact LeO.none _)
      | (with_reducible refine LeO.ite ?_ ?_)
      | (with_reducible refine LeO.bind ?_ (fun _ => ?_))
      | exact ih0 _ _ _ _ _ _ _ _ _ _ _ _ _
      | exact ih1 _ _ _ _ _ _ _ _ _ _ _ _ _ _ _ _ _ _ _
      | exact kauditlaw26_begun.mono _
      | exact kauditref26_Due.mono _ _ _ _ _ _
      | exact LeO.none _
      | refine LeO.ite ?_ ?_
      | refine LeO.bind ?_ (fun _ => ?_)
theorem kauditlaw26_RotateDue.mono : ∀ a0 a1 a2 a3 a4 a5 k, LeO (kauditlaw26_RotateDue.f k a0 a1 a2 a3 a4 a5) (kauditlaw26_RotateDue.f (k + 1) a0 a1 a2 a3 a4 a5) := by
  intro a0 a1 a2 a3 a4 a5 k
  obtain ⟨ih0, ih1⟩ := kauditlaw26_RotateDue.mono_l k
  unfold kauditlaw26_RotateDue.f
  repeat' first
      | (with_reducible exact ih0 _ _ _ _ _ _ _ _ _ _ _ _ _)
      | (with_reducible exact ih1 _ _ _ _ _ _ _ _ _ _ _ _ _ _ _ _ _ _ _)
      | (with_reducible exact kauditlaw26_begun.mono _)
      | (with_reducible exact kauditref26_Due.mono _ _ _ _ _ _)
      | (with_reducible exact LeO.refl _)
      | (with_reducible exact LeO.none _)
      | (with_reducible refine LeO.ite ?_ ?_)
      | (with_reducible refine LeO.bind ?_ (fun _ => ?_))
      | exact ih0 _ _ _ _ _ _ _ _ _ _ _ _ _
      | exact ih1 _ _ _ _ _ _ _ _ _ _ _ _ _ _ _ _ _ _ _
      | exact kauditlaw26_begun.mono _
      | exact kauditref26_Due.mono _ _ _ _ _ _
      | exact LeO.none _
      | refine LeO.ite ?_ ?_
      | refine LeO.bind ?_ (fun _ => ?_)
def kauditlaw26_RotateDue.T9 : Bool × List (List Nat × List Nat) := (true, [([], []), ([], []), ([1], [1]), ([], []), ([3], [3]), ([0, 2, 4], [0, 2, 4]), ([], []), ([], []), ([7], [7]), ([], []), ([9], [9]), ([6, 8, 10, 5], [6, 8, 10]), ([5, 11], [5, 11])])
def kauditlaw26_RotateDue.B9 : List Nat := [0, 0, 2, 0, 8, 31, 0, 0, 128, 0, 512, 2047, 4095]
theorem kauditlaw26_RotateDue.tab9 : rtab .any (opsOf Tryd.f3 9) = kauditlaw26_RotateDue.T9 := by kernel_rfl
theorem kauditlaw26_RotateDue.bits9 : waitsOk kauditlaw26_RotateDue.T9.2 kauditlaw26_RotateDue.B9 = true := by kernel_rfl
def kauditlaw26_RotateDue.T13 : Bool × List (List Nat × List Nat) := (true, [([], []), ([0], [0]), ([], []), ([2, 1], [2]), ([1, 3], [1, 3]), ([4, 3], [4]), ([5], [5]), ([6, 5, 5], [5, 6]), ([5, 7], [5, 7]), ([8, 7], [8]), ([9, 9], [9]), ([9, 10], [9, 10]), ([11, 10, 0, 1, 2, 3, 4, 5, 6, 7, 8, 9, 10, 11], [11])])
def kauditlaw26_RotateDue.B13 : List Nat := [0, 1, 0, 7, 15, 31, 63, 127, 255, 511, 1023, 2047, 4095]
theorem kauditlaw26_RotateDue.tab13 : rtab .any (opsOf Tryd.f3 13) = kauditlaw26_RotateDue.T13 := by kernel_rfl
theorem kauditlaw26_RotateDue.bits13 : waitsOk kauditlaw26_RotateDue.T13.2 kauditlaw26_RotateDue.B13 = true := by kernel_rfl
set_option maxHeartbeats 8000000 in
set_option maxRecDepth 100000 in
theorem kauditlaw26_RotateDue.calls (k : Nat) (a0_0 : Int) (a0_1 : Int) (a0_2 : Int) (a1 : Int) (a2 : Int) (A3 : Option Addr) (c3 : Nat) (l3 : List Int) (r : Bool) (w : World) (hT : TabOk w) (hr3 : Kd.C (Kd.int .u8) w A3 l3.length l3) (hc3 : l3.length ≤ c3) (h : kauditlaw26_RotateDue.f k a0_0 a0_1 a0_2 a1 a2 l3 = some r) :
    Calls Tryd.prog 3 #[.agg #[.int .i64 a0_0, .int .i64 a0_1, .int .i64 a0_2], .int .i64 a1, .int .i64 a2, .slice A3 l3.length c3] w fun e w' => e = .returned (.bool r) ∧ Below w.heap.size w w' := by
  have hu23 := Tryd.underlying23
  have hu29 := Tryd.underlying29
  have HT := Aside0.mk hT
  clear hT
  have HR3 := Aside0.mk hr3
  have HC3 := Aside0.mk hc3
  clear hr3 hc3
  have HB := Aside0.mk (Below.refl w.heap.size w)
  have H : ((kauditmill_New.f l3 30).bind fun bt158 => ((kauditmill_Case_Rotation.f bt158.1 bt158.2).bind fun bt161 => ((some (([(⟨a0_0, a0_1, a0_2⟩ : S23), (⟨bt161.1, bt161.2.1, bt161.2.2.1⟩ : S23)] : List (S23)) : List (S23))).bind fun y166 => (kauditlaw26_RotateDue.l0 k a1 a2 y166 (y166.length : Int) 0 a0_0 a0_1 a0_2 bt158.1 bt161.2.2.2 bt161.1 bt161.2.1 bt161.2.2.1)))) = some r := h
  clear h
  replace H := Option.bind_eq_some_iff.mp H
  obtain ⟨⟨t158, t159⟩, A50, H⟩ := H
  replace H : ((kauditmill_Case_Rotation.f t158 t159).bind fun bt161 => ((some (([(⟨a0_0, a0_1, a0_2⟩ : S23), (⟨bt161.1, bt161.2.1, bt161.2.2.1⟩ : S23)] : List (S23)) : List (S23))).bind fun y166 => (kauditlaw26_RotateDue.l0 k a1 a2 y166 (y166.length : Int) 0 a0_0 a0_1 a0_2 t158 bt161.2.2.2 bt161.1 bt161.2.1 bt161.2.2.1))) = some r := H
  have A5 := Aside0.mk A50
  clear A50
  replace H := Option.bind_eq_some_iff.mp H
  obtain ⟨⟨t161, t162, t163, t164⟩, A60, H⟩ := H
  replace H : ((some (([(⟨a0_0, a0_1, a0_2⟩ : S23), (⟨t161, t162, t163⟩ : S23)] : List (S23)) : List (S23))).bind fun y166 => (kauditlaw26_RotateDue.l0 k a1 a2 y166 (y166.length : Int) 0 a0_0 a0_1 a0_2 t158 t164 t161 t162 t163)) = some r := H
  have A6 := Aside0.mk A60
  clear A60
  obtain ⟨y166, hy166⟩ : ∃ y_ : List (S23), y_ = (([(⟨a0_0, a0_1, a0_2⟩ : S23), (⟨t161, t162, t163⟩ : S23)] : List (S23))) := ⟨_, rfl⟩
  replace H : (kauditlaw26_RotateDue.l0 k a1 a2 y166 (y166.length : Int) 0 a0_0 a0_1 a0_2 t158 t164 t161 t162 t163) = some r := by first | (rw [hy166]; with_reducible exact H) | (have H2_ := (Option.bind_some _ _).symm.trans H; rw [hy166]; with_reducible exact H2_) | (have H2_ := (Option.bind_some _ _).symm.trans H; with_reducible exact H2_) | with_reducible exact H | (rw [hy166]; exact H) | exact H
  have Ny166 := Aside0.mk hy166
  clear hy166
  have H' := Aside0.mk H
  clear H
  go_enter Tryd.func3, Tryd.ntmps3
  go_wp2_with (first | ((with_reducible refine gate_dst (N := 4) rfl ?_); refine box_event ?hg (N := 4) ?hd (cs := #[.int .i64 a0_0, .int .i64 a0_1, .int .i64 a0_2]) (t := 23) ?hr ?_; (case hd => rfl); (case hg => rfl); (case hr => first | (go_simp; done) | (go_simp; rfl)); intro gb157 hg w7 hbox hb; have n0_ := Aside0.mk (below_step (by repeat (first | (with_reducible first | exact HB.out | apply below_alloc | apply pw_below_drewN | apply below_drew1) | exact HB.out)) hb); have n1_ := Aside0.mk (hbox); have n2_ := Aside0.mk ((by rw [hg]; exact (below_size (by repeat (first | (with_reducible first | exact HB.out | apply below_alloc | apply pw_below_drewN | apply below_drew1) | exact HB.out))) : w.heap.size ≤ gb157)); have n3_ := Aside0.mk ((by rw [hg]; exact (below_size (by repeat (first | (with_reducible first | exact HB.out | apply below_alloc | apply pw_below_drewN | apply below_drew1) | exact HB.out))) : w.heap.size ≤ gb157)); clear HB; have HB := n0_; have BK157 := n1_; have GW157 := n2_; have GE157 := n3_; clear n0_ n1_ n2_ n3_; clear hb hbox hg) | ((with_reducible refine gate_callee (f := 9) rfl ?_); refine goesL_ (some 16) rfl rfl Tryd.func9 (by kernel_rfl) rfl #[.slice A3 l3.length c3, .int .i64 30] rfl (by (try simp only [List.map_toArray, List.map_cons, List.map_nil]); first | done | rfl | (simp only [List.length_drop, List.length_take]; rfl)) ?_; (with_reducible refine (kauditmill_New.calls _ _ l3 30 t158 t159 w _ ?side1 ?side2 ?side3 A5.out).mono ?_); (case side1 => repeat (first | (with_reducible first | exact HB.out | apply below_alloc | apply pw_below_drewN | apply below_drew1 | refine below_set ?_ GE157.out) | exact HB.out)); (case side2 => exact HR3.out); (case side3 => exact HC3.out); rintro e w8 ⟨g160, rfl, hi, hb, hb2⟩; refine ⟨_, rfl, ?_⟩; have n0_ := Aside0.mk (blk_below (g := gb157) (o := .cells #[.int .i64 a0_0, .int .i64 a0_1, .int .i64 a0_2] 23 (0, 0)) (by (with_reducible repeat (first | refine blk_drewN ?_ _ | refine blk_drew ?_ | refine blk_alloc ?_ _)); exact BK157.out) hb2); have n1_ := Aside0.mk (hb); have n2_ := Aside0.mk (hi); have n3_ := Aside0.mk (IsS54.ne_blk hi (blk_below (g := gb157) (o := .cells #[.int .i64 a0_0, .int .i64 a0_1, .int .i64 a0_2] 23 (0, 0)) (by (with_reducible repeat (first | refine blk_drewN ?_ _ | refine blk_drew ?_ | refine blk_alloc ?_ _)); exact BK157.out) hb2) (by decide)); have n4_ := Aside0.mk (Ne.symm (IsS54.ne_blk hi (blk_below (g := gb157) (o := .cells #[.int .i64 a0_0, .int .i64 a0_1, .int .i64 a0_2] 23 (0, 0)) (by (with_reducible repeat (first | refine blk_drewN ?_ _ | refine blk_drew ?_ | refine blk_alloc ?_ _)); exact BK157.out) hb2) (by decide))); clear BK157; clear HB; have BK157 := n0_; have HB := n1_; have HI160 := n2_; have NB160_157 := n3_; have NB157_160 := n4_; clear n0_ n1_ n2_ n3_ n4_; (try clear hb); (try clear hb2); (try clear hk); (try clear hi)) | ((with_reducible refine gate_callee (f := 10) rfl ?_); refine goesL_ (some 18) rfl rfl Tryd.func10 (by kernel_rfl) rfl #[.pointer (some ⟨g160, 0, none⟩)] rfl (by (try simp only [List.map_toArray, List.map_cons, List.map_nil]); first | done | rfl | (simp only [List.length_drop, List.length_take]; rfl)) ?_; (with_reducible refine (kauditmill_Case_Rotation.calls g160 t158 t159 t161 t162 t163 t164 w _ ?side1 ?side2 A6.out).mono ?_); (case side1 => repeat (first | (with_reducible first | exact HI160.out | apply IsS54.alloc | apply IsS54.drewN | apply IsS54.drew | apply IsS54.set_1 | refine IsS54.far ?_ NB160_157.out _) | exact HI160.out)); (case side2 => repeat (first | (with_reducible first | exact HB.out | apply below_alloc | apply pw_below_drewN | apply below_drew1 | refine below_set ?_ (IsS54.ge HI160.out) | refine below_set ?_ GE157.out) | exact HB.out)); rintro e w9 ⟨rfl, hi, hb, hk⟩; refine ⟨_, rfl, ?_⟩; have n0_ := Aside0.mk (KeepBut.blk hk (g' := gb157) (o := .cells #[.int .i64 a0_0, .int .i64 a0_1, .int .i64 a0_2] 23 (0, 0)) (by (with_reducible repeat (first | refine blk_drewN ?_ _ | refine blk_drew ?_ | refine blk_alloc ?_ _)); exact BK157.out) NB157_160.out (by simp)); have n1_ := Aside0.mk (hb); have n2_ := Aside0.mk (hi); clear BK157; clear HB; clear HI160; have BK157 := n0_; have HB := n1_; have HI160 := n2_; clear n0_ n1_ n2_; (try clear hb); (try clear hb2); (try clear hk); (try clear hi)) | ((with_reducible refine gate_dst (N := 10) rfl ?_); refine box_event ?hg (N := 10) ?hd (cs := #[.int .i64 0, .int .i64 0, .int .i64 0]) (t := 23) ?hr ?_; (case hd => rfl); (case hg => rfl); (case hr => first | (go_simp; done) | (go_simp; rfl)); intro gb165 hg w10 hbox hb; have n0_ := Aside0.mk (blk_below (g := gb157) (o := .cells #[.int .i64 a0_0, .int .i64 a0_1, .int .i64 a0_2] 23 (0, 0)) (by (with_reducible repeat (first | refine blk_drewN ?_ _ | refine blk_drew ?_ | refine blk_alloc ?_ _)); exact BK157.out) hb); have n1_ := Aside0.mk (IsS54.below (by repeat (first | (with_reducible first | exact HI160.out | apply IsS54.alloc | apply IsS54.drewN | apply IsS54.drew | apply IsS54.set_1 | refine IsS54.far ?_ NB160_157.out _) | exact HI160.out)) hb); have n2_ := Aside0.mk (below_step (by repeat (first | (with_reducible first | exact HB.out | apply below_alloc | apply pw_below_drewN | apply below_drew1 | refine below_set ?_ (IsS54.ge HI160.out) | refine below_set ?_ GE157.out) | exact HB.out)) hb); have n3_ := Aside0.mk (hbox); have n4_ := Aside0.mk ((by rw [hg]; exact (below_size (by repeat (first | (with_reducible first | exact HB.out | apply below_alloc | apply pw_below_drewN | apply below_drew1 | refine below_set ?_ (IsS54.ge HI160.out) | refine below_set ?_ GE157.out) | exact HB.out))) : w.heap.size ≤ gb165)); have n5_ := Aside0.mk ((by rw [hg]; exact (below_size (by repeat (first | (with_reducible first | exact HB.out | apply below_alloc | apply pw_below_drewN | apply below_drew1 | refine below_set ?_ (IsS54.ge HI160.out) | refine below_set ?_ GE157.out) | exact HB.out))) : w.heap.size ≤ gb165)); have n6_ := Aside0.mk ((by rw [hg]; exact Nat.ne_of_lt (blk_lt (g := gb157) (o := .cells #[.int .i64 a0_0, .int .i64 a0_1, .int .i64 a0_2] 23 (0, 0)) (by (with_reducible repeat (first | refine blk_drewN ?_ _ | refine blk_drew ?_ | refine blk_alloc ?_ _)); exact BK157.out)) : gb157 ≠ gb165)); have n7_ := Aside0.mk ((by rw [hg]; exact Nat.ne_of_gt (blk_lt (g := gb157) (o := .cells #[.int .i64 a0_0, .int .i64 a0_1, .int .i64 a0_2] 23 (0, 0)) (by (with_reducible repeat (first | refine blk_drewN ?_ _ | refine blk_drew ?_ | refine blk_alloc ?_ _)); exact BK157.out)) : gb165 ≠ gb157)); have n8_ := Aside0.mk ((by rw [hg]; exact Nat.ne_of_lt (IsS54.lt (show IsS54 w _ g160 t158 t164 from by repeat (first | (with_reducible first | exact HI160.out | apply IsS54.alloc | apply IsS54.drewN | apply IsS54.drew | apply IsS54.set_1 | refine IsS54.far ?_ NB160_157.out _) | exact HI160.out))) : g160 ≠ gb165)); have n9_ := Aside0.mk ((by rw [hg]; exact Nat.ne_of_gt (IsS54.lt (show IsS54 w _ g160 t158 t164 from by repeat (first | (with_reducible first | exact HI160.out | apply IsS54.alloc | apply IsS54.drewN | apply IsS54.drew | apply IsS54.set_1 | refine IsS54.far ?_ NB160_157.out _) | exact HI160.out))) : gb165 ≠ g160)); clear BK157; clear HI160; clear HB; have BK157 := n0_; have HI160 := n1_; have HB := n2_; have BK165 := n3_; have GW165 := n4_; have GE165 := n5_; have NB157_165 := n6_; have NB165_157 := n7_; have NB160_165 := n8_; have NB165_160 := n9_; clear n0_ n1_ n2_ n3_ n4_ n5_ n6_ n7_ n8_ n9_; clear hb hbox hg; have hnb11 := NB165_157.out; have hnc11 := NB157_165.out; have hnb12 := NB165_160.out; have hnc12 := NB160_165.out; have hcz13_0 : w10.cell? ⟨gb165, 0, none⟩ = some (.int .i64 0) := (blk_cell BK165.out 0).trans rfl; have hcz13_1 : w10.cell? ⟨gb165, 1, none⟩ = some (.int .i64 0) := (blk_cell BK165.out 1).trans rfl; have hcz13_2 : w10.cell? ⟨gb165, 2, none⟩ = some (.int .i64 0) := (blk_cell BK165.out 2).trans rfl; have hfz13_0 := blk_frozen BK165.out 0; have hfz13_1 := blk_frozen BK165.out 1; have hfz13_2 := blk_frozen BK165.out 2; have hnb14 := NB157_160.out; have hnc14 := NB160_157.out; have hcz15_0 : w10.cell? ⟨gb157, 0, none⟩ = some (.int .i64 a0_0) := (blk_cell BK157.out 0).trans rfl; have hcz15_1 : w10.cell? ⟨gb157, 1, none⟩ = some (.int .i64 a0_1) := (blk_cell BK157.out 1).trans rfl; have hcz15_2 : w10.cell? ⟨gb157, 2, none⟩ = some (.int .i64 a0_2) := (blk_cell BK157.out 2).trans rfl; have hfz15_0 := blk_frozen BK157.out 0; have hfz15_1 := blk_frozen BK157.out 1; have hfz15_2 := blk_frozen BK157.out 2) | ((with_reducible refine gate_dst (N := 21) rfl ?_); refine Kd.R_lit k23 _ 23 ?hg (N := 21) ?hd (xs := ([(⟨a0_0, a0_1, a0_2⟩ : S23), (⟨t161, t162, t163⟩ : S23)] : List (S23))) (inner := [.int .i64 a0_0, .int .i64 a0_1, .int .i64 a0_2, .int .i64 t161, .int .i64 t162, .int .i64 t163]) (ok := fun _ => True) (okp := fun _ => True) ?hr ?hp (fun _ hk => hk) trivial (Below.refl _ _) (Nat.le_refl _) (by simp) ?_; (case hd => rfl); (case hg => rfl); (case hr => first | (go_simp; done) | (go_simp; rfl)); (case hp => exact (Reps.c3 (show Kd.M k23 _ _ _ (⟨a0_0, a0_1, a0_2⟩ : S23) [.int .i64 a0_0, .int .i64 a0_1, .int .i64 a0_2] from (k23_mkM _ _ _ (⟨a0_0, a0_1, a0_2⟩ : S23) )) (Reps.c3 (show Kd.M k23 _ _ _ (⟨t161, t162, t163⟩ : S23) [.int .i64 t161, .int .i64 t162, .int .i64 t163] from (k23_mkM _ _ _ (⟨t161, t162, t163⟩ : S23) )) (Reps.none _ _)))); intro v167 w16 ho17 hb hg_ hnew_; clear hg_ hnew_; (first | rw [← Ny166.out] at ho17 | (simp only [Int.reduceToNat] at ho17; rw [← Ny166.out] at ho17)); have n0_ := Aside0.mk (Kd.R_lower (Kd.R_newB (Kd.R_newB ho17 (g := gb157) (o := .cells #[.int .i64 a0_0, .int .i64 a0_1, .int .i64 a0_2] 23 (0, 0)) (by (with_reducible repeat (first | refine blk_drewN ?_ _ | refine blk_drew ?_ | refine blk_alloc ?_ _)); refine blk_far ?_ NB157_165.out _; (with_reducible repeat (first | refine blk_drewN ?_ _ | refine blk_drew ?_ | refine blk_alloc ?_ _)); refine blk_far ?_ NB157_165.out _; (with_reducible repeat (first | refine blk_drewN ?_ _ | refine blk_drew ?_ | refine blk_alloc ?_ _)); refine blk_far ?_ NB157_165.out _; (with_reducible repeat (first | refine blk_drewN ?_ _ | refine blk_drew ?_ | refine blk_alloc ?_ _)); exact BK157.out)) (g := gb165) (o := .cells #[.int .i64 t161, .int .i64 t162, .int .i64 t163] 23 (0, 0)) (by (with_reducible repeat (first | refine blk_drewN ?_ _ | refine blk_drew ?_ | refine blk_alloc ?_ _)); refine blk_put (cs := #[.int .i64 t161, .int .i64 t162, .int .i64 0]) ?_ 2 _ rfl; (with_reducible repeat (first | refine blk_drewN ?_ _ | refine blk_drew ?_ | refine blk_alloc ?_ _)); refine blk_put (cs := #[.int .i64 t161, .int .i64 0, .int .i64 0]) ?_ 1 _ rfl; (with_reducible repeat (first | refine blk_drewN ?_ _ | refine blk_drew ?_ | refine blk_alloc ?_ _)); refine blk_put (cs := #[.int .i64 0, .int .i64 0, .int .i64 0]) ?_ 0 _ rfl; (with_reducible repeat (first | refine blk_drewN ?_ _ | refine blk_drew ?_ | refine blk_alloc ?_ _)); exact BK165.out)) (below_size (by repeat (first | (with_reducible first | exact HB.out | apply below_alloc | apply pw_below_drewN | apply below_drew1 | refine below_set ?_ (IsS54.ge HI160.out) | refine below_set ?_ GE157.out | refine below_set ?_ GE165.out) | exact HB.out)))); have n1_ := Aside0.mk (blk_below (g := gb157) (o := .cells #[.int .i64 a0_0, .int .i64 a0_1, .int .i64 a0_2] 23 (0, 0)) (by (with_reducible repeat (first | refine blk_drewN ?_ _ | refine blk_drew ?_ | refine blk_alloc ?_ _)); refine blk_far ?_ NB157_165.out _; (with_reducible repeat (first | refine blk_drewN ?_ _ | refine blk_drew ?_ | refine blk_alloc ?_ _)); refine blk_far ?_ NB157_165.out _; (with_reducible repeat (first | refine blk_drewN ?_ _ | refine blk_drew ?_ | refine blk_alloc ?_ _)); refine blk_far ?_ NB157_165.out _; (with_reducible repeat (first | refine blk_drewN ?_ _ | refine blk_drew ?_ | refine blk_alloc ?_ _)); exact BK157.out) hb); have n2_ := Aside0.mk (IsS54.below (show IsS54 w (((w10.setCell ⟨gb165, 0, none⟩ (.int .i64 t161)).setCell ⟨gb165, 1, none⟩ (.int .i64 t162)).setCell ⟨gb165, 2, none⟩ (.int .i64 t163)) g160 t158 t164 from by repeat (first | (with_reducible first | exact HI160.out | apply IsS54.alloc | apply IsS54.drewN | apply IsS54.drew | apply IsS54.set_1 | refine IsS54.far ?_ NB160_157.out _ | refine IsS54.far ?_ NB160_165.out _) | exact HI160.out)) hb); have n3_ := Aside0.mk (blk_below (g := gb165) (o := .cells #[.int .i64 t161, .int .i64 t162, .int .i64 t163] 23 (0, 0)) (by (with_reducible repeat (first | refine blk_drewN ?_ _ | refine blk_drew ?_ | refine blk_alloc ?_ _)); refine blk_put (cs := #[.int .i64 t161, .int .i64 t162, .int .i64 0]) ?_ 2 _ rfl; (with_reducible repeat (first | refine blk_drewN ?_ _ | refine blk_drew ?_ | refine blk_alloc ?_ _)); refine blk_put (cs := #[.int .i64 t161, .int .i64 0, .int .i64 0]) ?_ 1 _ rfl; (with_reducible repeat (first | refine blk_drewN ?_ _ | refine blk_drew ?_ | refine blk_alloc ?_ _)); refine blk_put (cs := #[.int .i64 0, .int .i64 0, .int .i64 0]) ?_ 0 _ rfl; (with_reducible repeat (first | refine blk_drewN ?_ _ | refine blk_drew ?_ | refine blk_alloc ?_ _)); exact BK165.out) hb); have n4_ := Aside0.mk (below_step (by repeat (first | (with_reducible first | exact HB.out | apply below_alloc | apply pw_below_drewN | apply below_drew1 | refine below_set ?_ (IsS54.ge HI160.out) | refine below_set ?_ GE157.out | refine below_set ?_ GE165.out) | exact HB.out)) hb); clear BK157; clear HI160; clear BK165; clear HB; have HO168 := n0_; have BK157 := n1_; have HI160 := n2_; have BK165 := n3_; have HB := n4_; clear n0_ n1_ n2_ n3_ n4_; clear hb ho17; obtain ⟨Ao18, co18, eo18⟩ := Kd.R_slice HO168.out; subst eo18))
  go_loopg [23] k (fun kq v23 w' => ∃ (x23_1 : Int) (x161001_1 : Int), v23 = .int .i64 x23_1 ∧ Aside0 (kauditlaw26_RotateDue.l0 kq a1 a2 y166 (y166.length : Int) x23_1 a0_0 a0_1 a0_2 t158 x161001_1 t161 t162 t163 = some r) ∧ Aside0 (kq ≤ k) ∧ Aside0 (Kd.R k23 23 w' w.heap.size (fun k_ => k_ ≠ gb157 ∧ k_ ≠ gb165) (.slice Ao18 y166.length co18) y166) ∧ Aside0 (w'.heap[gb157]? = some (.cells #[.int .i64 a0_0, .int .i64 a0_1, .int .i64 a0_2] 23 (0, 0))) ∧ Aside0 (w'.heap[gb165]? = some (.cells #[.int .i64 t161, .int .i64 t162, .int .i64 t163] 23 (0, 0))) ∧ Aside0 (IsS54 w w' g160 t158 x161001_1) ∧ Aside0 (Below w.heap.size w w'))
  case atStart => exact ⟨(0), (t164), (by first | rfl | (simp; done) | (simp [*]; done)), H', ⟨Nat.le_refl _⟩, ⟨by (with_reducible repeat (first | apply Kd.R_alloc | apply Kd.R_drewN | apply Kd.R_drew)); exact Kd.R_mono HO168.out (fun _ hk => ⟨hk.1.2, hk.2⟩)⟩, ⟨by (with_reducible repeat (first | refine blk_drewN ?_ _ | refine blk_drew ?_ | refine blk_alloc ?_ _)); exact BK157.out⟩, ⟨by (with_reducible repeat (first | refine blk_drewN ?_ _ | refine blk_drew ?_ | refine blk_alloc ?_ _)); exact BK165.out⟩, ⟨by repeat (first | (with_reducible first | exact HI160.out | apply IsS54.alloc | apply IsS54.drewN | apply IsS54.drew | apply IsS54.set_1 | refine IsS54.far ?_ NB160_157.out _ | refine IsS54.far ?_ NB160_165.out _) | exact HI160.out)⟩, ⟨by repeat (first | (with_reducible first | exact HB.out | apply below_alloc | apply pw_below_drewN | apply below_drew1 | refine below_set ?_ (IsS54.ge HI160.out) | refine below_set ?_ GE157.out | refine below_set ?_ GE165.out) | exact HB.out)⟩⟩
  case round =>
    clear H'
    try clear c1
    try clear p2
    try clear c3
    try clear c9
    try clear c10
    try clear c11
    try clear c12
    try clear c14
    try clear hcz13_0
    try clear hcz13_1
    try clear hcz13_2
    try clear hcz15_0
    try clear hcz15_1
    try clear hcz15_2
    try clear hfz13_0
    try clear hfz13_1
    try clear hfz13_2
    try clear hfz15_0
    try clear hfz15_1
    try clear hfz15_2
    obtain ⟨x23_1, x161001_1, rfl, HA, HK1, HO_21, BK157, BK165, HI160, HB⟩ := hrel
    cases gk with
    | zero => exact absurd HA.out (by simp [kauditlaw26_RotateDue.l0])
    | succ k1 =>
      have H := HA.out
      clear HA
      simp only [kauditlaw26_RotateDue.l0] at H
      by_cases c19 : x23_1 < (y166.length : Int)
      · rw [if_pos c19] at H
        have c19b0 : decide (x23_1 < (y166.length : Int)) = true := decide_eq_true c19
        clear c19
        by_cases c20 : 0 ≤ x23_1
        · rw [if_pos c20] at H
          have c20b0 : decide (0 ≤ x23_1) = true := decide_eq_true c20
          clear c20
          by_cases c21 : x23_1 < (y166.length : Int)
          · rw [if_pos c21] at H
            have c21b0 : decide (x23_1 < (y166.length : Int)) = true := decide_eq_true c21
            clear c21
            obtain ⟨y171, hy171⟩ : ∃ y_ : List Int, y_ = (([0, 60, 64, 149, 150, 300] : List Int)) := ⟨_, rfl⟩
            replace H : ((kauditmill_Case_Pick.f t158 x161001_1 y171).bind fun bt174 => ((kauditmill_Case_Pick.f t158 bt174.2 (([1, 4, 150] : List Int))).bind fun bt179 => ((some (([(⟨a1, a2⟩ : S29), (⟨bt174.1, bt179.1⟩ : S29), (⟨a1, 1⟩ : S29), (⟨1, a2⟩ : S29), (⟨9223372036854775807, a2⟩ : S29), (⟨a1, (-9223372036854775808)⟩ : S29)] : List (S29)) : List (S29))).bind fun y181 => (kauditlaw26_RotateDue.l1 k1 a1 a2 y166 (y166.length : Int) x23_1 y181 (y181.length : Int) 0 a0_0 a0_1 a0_2 t158 bt179.2 t161 t162 t163 ((rd_T23 y166 x23_1).f0) ((rd_T23 y166 x23_1).f1) ((rd_T23 y166 x23_1).f2))))) = some r := by first | (rw [hy171]; with_reducible exact H) | (have H2_ := (Option.bind_some _ _).symm.trans H; rw [hy171]; with_reducible exact H2_) | (have H2_ := (Option.bind_some _ _).symm.trans H; with_reducible exact H2_) | with_reducible exact H | (rw [hy171]; exact H) | exact H
            have Ny171 := Aside0.mk hy171
            clear hy171
            replace H := Option.bind_eq_some_iff.mp H
            obtain ⟨⟨t174, t175⟩, A220, H⟩ := H
            replace H : ((kauditmill_Case_Pick.f t158 t175 (([1, 4, 150] : List Int))).bind fun bt179 => ((some (([(⟨a1, a2⟩ : S29), (⟨t174, bt179.1⟩ : S29), (⟨a1, 1⟩ : S29), (⟨1, a2⟩ : S29), (⟨9223372036854775807, a2⟩ : S29), (⟨a1, (-9223372036854775808)⟩ : S29)] : List (S29)) : List (S29))).bind fun y181 => (kauditlaw26_RotateDue.l1 k1 a1 a2 y166 (y166.length : Int) x23_1 y181 (y181.length : Int) 0 a0_0 a0_1 a0_2 t158 bt179.2 t161 t162 t163 ((rd_T23 y166 x23_1).f0) ((rd_T23 y166 x23_1).f1) ((rd_T23 y166 x23_1).f2)))) = some r := H
            have A22 := Aside0.mk A220
            clear A220
            obtain ⟨y176, hy176⟩ : ∃ y_ : List Int, y_ = (([1, 4, 150] : List Int)) := ⟨_, rfl⟩
            replace H : ((kauditmill_Case_Pick.f t158 t175 y176).bind fun bt179 => ((some (([(⟨a1, a2⟩ : S29), (⟨t174, bt179.1⟩ : S29), (⟨a1, 1⟩ : S29), (⟨1, a2⟩ : S29), (⟨9223372036854775807, a2⟩ : S29), (⟨a1, (-9223372036854775808)⟩ : S29)] : List (S29)) : List (S29))).bind fun y181 => (kauditlaw26_RotateDue.l1 k1 a1 a2 y166 (y166.length : Int) x23_1 y181 (y181.length : Int) 0 a0_0 a0_1 a0_2 t158 bt179.2 t161 t162 t163 ((rd_T23 y166 x23_1).f0) ((rd_T23 y166 x23_1).f1) ((rd_T23 y166 x23_1).f2)))) = some r := by first | (rw [hy176]; with_reducible exact H) | (have H2_ := (Option.bind_some _ _).symm.trans H; rw [hy176]; with_reducible exact H2_) | (have H2_ := (Option.bind_some _ _).symm.trans H; with_reducible exact H2_) | with_reducible exact H | (rw [hy176]; exact H) | exact H
            have Ny176 := Aside0.mk hy176
            clear hy176
            replace H := Option.bind_eq_some_iff.mp H
            obtain ⟨⟨t179, t180⟩, A230, H⟩ := H
            replace H : ((some (([(⟨a1, a2⟩ : S29), (⟨t174, t179⟩ : S29), (⟨a1, 1⟩ : S29), (⟨1, a2⟩ : S29), (⟨9223372036854775807, a2⟩ : S29), (⟨a1, (-9223372036854775808)⟩ : S29)] : List (S29)) : List (S29))).bind fun y181 => (kauditlaw26_RotateDue.l1 k1 a1 a2 y166 (y166.length : Int) x23_1 y181 (y181.length : Int) 0 a0_0 a0_1 a0_2 t158 t180 t161 t162 t163 ((rd_T23 y166 x23_1).f0) ((rd_T23 y166 x23_1).f1) ((rd_T23 y166 x23_1).f2))) = some r := H
            have A23 := Aside0.mk A230
            clear A230
            obtain ⟨y181, hy181⟩ : ∃ y_ : List (S29), y_ = (([(⟨a1, a2⟩ : S29), (⟨t174, t179⟩ : S29), (⟨a1, 1⟩ : S29), (⟨1, a2⟩ : S29), (⟨9223372036854775807, a2⟩ : S29), (⟨a1, (-9223372036854775808)⟩ : S29)] : List (S29))) := ⟨_, rfl⟩
            replace H : (kauditlaw26_RotateDue.l1 k1 a1 a2 y166 (y166.length : Int) x23_1 y181 (y181.length : Int) 0 a0_0 a0_1 a0_2 t158 t180 t161 t162 t163 ((rd_T23 y166 x23_1).f0) ((rd_T23 y166 x23_1).f1) ((rd_T23 y166 x23_1).f2)) = some r := by first | (rw [hy181]; with_reducible exact H) | (have H2_ := (Option.bind_some _ _).symm.trans H; rw [hy181]; with_reducible exact H2_) | (have H2_ := (Option.bind_some _ _).symm.trans H; with_reducible exact H2_) | with_reducible exact H | (rw [hy181]; exact H) | exact H
            have Ny181 := Aside0.mk hy181
            clear hy181
            have H' := Aside0.mk H
            clear H
            have p169 : 0 ≤ (x23_1 : Int) := of_decide_eq_true (by first | (with_reducible assumption) | assumption)
            have q169 : x23_1 < (y166.length : Int) := of_decide_eq_true (by first | (with_reducible assumption) | assumption)
            obtain ⟨ad169, e169, hx169_0, hx169_1, hx169_2⟩ := at_T23 (Kd.R_reads' HO_21.out).2.2 x23_1 p169 q169
            cases e169
            replace p169 := eq_true p169
            replace q169 := eq_true q169
            go_wp2_with (first | ((with_reducible refine gate_dst (N := 12) rfl ?_); refine box_event ?hg (N := 12) ?hd (cs := #[.int .i64 0, .int .i64 0, .int .i64 0]) (t := 23) ?hr ?_; (case hd => rfl); (case hg => rfl); (case hr => first | (go_simp; done) | (go_simp; rfl)); intro gb170 hg w24 hbox hb; have n0_ := Aside0.mk (Kd.R_below (Kd.R_elderB (by (with_reducible repeat (first | apply Kd.R_alloc | apply Kd.R_drewN | apply Kd.R_drew)); exact HO_21.out) gb170 (Nat.le_of_eq hg.symm)) hb); have n1_ := Aside0.mk (blk_below (g := gb157) (o := .cells #[.int .i64 a0_0, .int .i64 a0_1, .int .i64 a0_2] 23 (0, 0)) (by (with_reducible repeat (first | refine blk_drewN ?_ _ | refine blk_drew ?_ | refine blk_alloc ?_ _)); exact BK157.out) hb); have n2_ := Aside0.mk (blk_below (g := gb165) (o := .cells #[.int .i64 t161, .int .i64 t162, .int .i64 t163] 23 (0, 0)) (by (with_reducible repeat (first | refine blk_drewN ?_ _ | refine blk_drew ?_ | refine blk_alloc ?_ _)); exact BK165.out) hb); have n3_ := Aside0.mk (IsS54.below (by repeat (first | (with_reducible first | exact HI160.out | apply IsS54.alloc | apply IsS54.drewN | apply IsS54.drew | apply IsS54.set_1 | refine IsS54.far ?_ NB160_157.out _ | refine IsS54.far ?_ NB160_165.out _) | exact HI160.out)) hb); have n4_ := Aside0.mk (below_step (by repeat (first | (with_reducible first | exact HB.out | apply below_alloc | apply pw_below_drewN | apply below_drew1 | refine below_set ?_ (IsS54.ge HI160.out) | refine below_set ?_ GE157.out | refine below_set ?_ GE165.out) | exact HB.out)) hb); have n5_ := Aside0.mk (hbox); have n6_ := Aside0.mk ((by rw [hg]; exact (below_size (by repeat (first | (with_reducible first | exact HB.out | apply below_alloc | apply pw_below_drewN | apply below_drew1 | refine below_set ?_ (IsS54.ge HI160.out) | refine below_set ?_ GE157.out | refine below_set ?_ GE165.out) | exact HB.out))) : w.heap.size ≤ gb170)); have n7_ := Aside0.mk ((by rw [hg]; exact (below_size (by repeat (first | (with_reducible first | exact HB.out | apply below_alloc | apply pw_below_drewN | apply below_drew1 | refine below_set ?_ (IsS54.ge HI160.out) | refine below_set ?_ GE157.out | refine below_set ?_ GE165.out) | exact HB.out))) : w.heap.size ≤ gb170)); have n8_ := Aside0.mk ((by rw [hg]; exact Nat.ne_of_lt (blk_lt (g := gb157) (o := .cells #[.int .i64 a0_0, .int .i64 a0_1, .int .i64 a0_2] 23 (0, 0)) (by (with_reducible repeat (first | refine blk_drewN ?_ _ | refine blk_drew ?_ | refine blk_alloc ?_ _)); exact BK157.out)) : gb157 ≠ gb170)); have n9_ := Aside0.mk ((by rw [hg]; exact Nat.ne_of_gt (blk_lt (g := gb157) (o := .cells #[.int .i64 a0_0, .int .i64 a0_1, .int .i64 a0_2] 23 (0, 0)) (by (with_reducible repeat (first | refine blk_drewN ?_ _ | refine blk_drew ?_ | refine blk_alloc ?_ _)); exact BK157.out)) : gb170 ≠ gb157)); have n10_ := Aside0.mk ((by rw [hg]; exact Nat.ne_of_lt (blk_lt (g := gb165) (o := .cells #[.int .i64 t161, .int .i64 t162, .int .i64 t163] 23 (0, 0)) (by (with_reducible repeat (first | refine blk_drewN ?_ _ | refine blk_drew ?_ | refine blk_alloc ?_ _)); exact BK165.out)) : gb165 ≠ gb170)); have n11_ := Aside0.mk ((by rw [hg]; exact Nat.ne_of_gt (blk_lt (g := gb165) (o := .cells #[.int .i64 t161, .int .i64 t162, .int .i64 t163] 23 (0, 0)) (by (with_reducible repeat (first | refine blk_drewN ?_ _ | refine blk_drew ?_ | refine blk_alloc ?_ _)); exact BK165.out)) : gb170 ≠ gb165)); have n12_ := Aside0.mk ((by rw [hg]; exact Nat.ne_of_lt (IsS54.lt (show IsS54 w _ g160 t158 x161001_1 from by repeat (first | (with_reducible first | exact HI160.out | apply IsS54.alloc | apply IsS54.drewN | apply IsS54.drew | apply IsS54.set_1 | refine IsS54.far ?_ NB160_157.out _ | refine IsS54.far ?_ NB160_165.out _) | exact HI160.out))) : g160 ≠ gb170)); have n13_ := Aside0.mk ((by rw [hg]; exact Nat.ne_of_gt (IsS54.lt (show IsS54 w _ g160 t158 x161001_1 from by repeat (first | (with_reducible first | exact HI160.out | apply IsS54.alloc | apply IsS54.drewN | apply IsS54.drew | apply IsS54.set_1 | refine IsS54.far ?_ NB160_157.out _ | refine IsS54.far ?_ NB160_165.out _) | exact HI160.out))) : gb170 ≠ g160)); clear HO_21; clear BK157; clear BK165; clear HI160; clear HB; have HO_21 := n0_; have BK157 := n1_; have BK165 := n2_; have HI160 := n3_; have HB := n4_; have BK170 := n5_; have GW170 := n6_; have GE170 := n7_; have NB157_170 := n8_; have NB170_157 := n9_; have NB165_170 := n10_; have NB170_165 := n11_; have NB160_170 := n12_; have NB170_160 := n13_; clear n0_ n1_ n2_ n3_ n4_ n5_ n6_ n7_ n8_ n9_ n10_ n11_ n12_ n13_; clear hb hbox hg; have hnb25 := NB170_157.out; have hnc25 := NB157_170.out; have hnb26 := NB170_165.out; have hnc26 := NB165_170.out; have hnb27 := NB170_160.out; have hnc27 := NB160_170.out; have hcz28_0 : w24.cell? ⟨gb170, 0, none⟩ = some (.int .i64 0) := (blk_cell BK170.out 0).trans rfl; have hcz28_1 : w24.cell? ⟨gb170, 1, none⟩ = some (.int .i64 0) := (blk_cell BK170.out 1).trans rfl; have hcz28_2 : w24.cell? ⟨gb170, 2, none⟩ = some (.int .i64 0) := (blk_cell BK170.out 2).trans rfl; have hfz28_0 := blk_frozen BK170.out 0; have hfz28_1 := blk_frozen BK170.out 1; have hfz28_2 := blk_frozen BK170.out 2) | ((with_reducible refine gate_dst (N := 31) rfl ?_); refine Kd.R_lit (Kd.int .i64) _ 3 ?hg (N := 31) ?hd (xs := ([0, 60, 64, 149, 150, 300] : List Int)) (inner := [.int .i64 0, .int .i64 60, .int .i64 64, .int .i64 149, .int .i64 150, .int .i64 300]) (ok := fun _ => True) (okp := fun _ => True) ?hr ?hp (fun _ hk => hk) trivial (Below.refl _ _) (Nat.le_refl _) (by simp) ?_; (case hd => rfl); (case hg => rfl); (case hr => first | (go_simp; done) | (go_simp; rfl)); (case hp => exact (Reps.one (show Kd.M (Kd.int .i64) _ _ _ 0 [.int .i64 0] from rfl) (Reps.one (show Kd.M (Kd.int .i64) _ _ _ 60 [.int .i64 60] from rfl) (Reps.one (show Kd.M (Kd.int .i64) _ _ _ 64 [.int .i64 64] from rfl) (Reps.one (show Kd.M (Kd.int .i64) _ _ _ 149 [.int .i64 149] from rfl) (Reps.one (show Kd.M (Kd.int .i64) _ _ _ 150 [.int .i64 150] from rfl) (Reps.one (show Kd.M (Kd.int .i64) _ _ _ 300 [.int .i64 300] from rfl) (Reps.none _ _)))))))); intro v172 w29 ho30 hb hg_ hnew_; clear hg_ hnew_; (first | rw [← Ny171.out] at ho30 | (simp only [Int.reduceToNat] at ho30; rw [← Ny171.out] at ho30)); have n0_ := Aside0.mk (Kd.R_below (by (with_reducible repeat (first | apply Kd.R_alloc | apply Kd.R_drewN | apply Kd.R_drew)); exact (Kd.R_mono (Kd.R_far (p := ⟨gb170, 2, none⟩) (Kd.R_far (p := ⟨gb170, 1, none⟩) (Kd.R_far (p := ⟨gb170, 0, none⟩) (Kd.R_mono HO_21.out (fun k_ hk => (⟨hk, hk.2⟩ : _ ∧ k_ ≠ gb170))) (fun _ hk => hk.2) (.int .i64 ((rd_T23 y166 x23_1).f0))) (fun _ hk => hk.2) (.int .i64 ((rd_T23 y166 x23_1).f1))) (fun _ hk => hk.2) (.int .i64 ((rd_T23 y166 x23_1).f2))) (fun _ h_ => h_.1))) hb); have n1_ := Aside0.mk (Kd.R_lower ho30 (below_size (by repeat (first | (with_reducible first | exact HB.out | apply below_alloc | apply pw_below_drewN | apply below_drew1 | refine below_set ?_ (IsS54.ge HI160.out) | refine below_set ?_ GE157.out | refine below_set ?_ GE165.out | refine below_set ?_ GE170.out) | exact HB.out)))); have n2_ := Aside0.mk (blk_below (g := gb157) (o := .cells #[.int .i64 a0_0, .int .i64 a0_1, .int .i64 a0_2] 23 (0, 0)) (by (with_reducible repeat (first | refine blk_drewN ?_ _ | refine blk_drew ?_ | refine blk_alloc ?_ _)); refine blk_far ?_ NB157_170.out _; (with_reducible repeat (first | refine blk_drewN ?_ _ | refine blk_drew ?_ | refine blk_alloc ?_ _)); refine blk_far ?_ NB157_170.out _; (with_reducible repeat (first | refine blk_drewN ?_ _ | refine blk_drew ?_ | refine blk_alloc ?_ _)); refine blk_far ?_ NB157_170.out _; (with_reducible repeat (first | refine blk_drewN ?_ _ | refine blk_drew ?_ | refine blk_alloc ?_ _)); exact BK157.out) hb); have n3_ := Aside0.mk (blk_below (g := gb165) (o := .cells #[.int .i64 t161, .int .i64 t162, .int .i64 t163] 23 (0, 0)) (by (with_reducible repeat (first | refine blk_drewN ?_ _ | refine blk_drew ?_ | refine blk_alloc ?_ _)); refine blk_far ?_ NB165_170.out _; (with_reducible repeat (first | refine blk_drewN ?_ _ | refine blk_drew ?_ | refine blk_alloc ?_ _)); refine blk_far ?_ NB165_170.out _; (with_reducible repeat (first | refine blk_drewN ?_ _ | refine blk_drew ?_ | refine blk_alloc ?_ _)); refine blk_far ?_ NB165_170.out _; (with_reducible repeat (first | refine blk_drewN ?_ _ | refine blk_drew ?_ | refine blk_alloc ?_ _)); exact BK165.out) hb); have n4_ := Aside0.mk (IsS54.below (show IsS54 w (((w24.setCell ⟨gb170, 0, none⟩ (.int .i64 ((rd_T23 y166 x23_1).f0))).setCell ⟨gb170, 1, none⟩ (.int .i64 ((rd_T23 y166 x23_1).f1))).setCell ⟨gb170, 2, none⟩ (.int .i64 ((rd_T23 y166 x23_1).f2))) g160 t158 x161001_1 from by repeat (first | (with_reducible first | exact HI160.out | apply IsS54.alloc | apply IsS54.drewN | apply IsS54.drew | apply IsS54.set_1 | refine IsS54.far ?_ NB160_157.out _ | refine IsS54.far ?_ NB160_165.out _ | refine IsS54.far ?_ NB160_170.out _) | exact HI160.out)) hb); have n5_ := Aside0.mk (blk_below (g := gb170) (o := .cells #[.int .i64 ((rd_T23 y166 x23_1).f0), .int .i64 ((rd_T23 y166 x23_1).f1), .int .i64 ((rd_T23 y166 x23_1).f2)] 23 (0, 0)) (by (with_reducible repeat (first | refine blk_drewN ?_ _ | refine blk_drew ?_ | refine blk_alloc ?_ _)); refine blk_put (cs := #[.int .i64 ((rd_T23 y166 x23_1).f0), .int .i64 ((rd_T23 y166 x23_1).f1), .int .i64 0]) ?_ 2 _ rfl; (with_reducible repeat (first | refine blk_drewN ?_ _ | refine blk_drew ?_ | refine blk_alloc ?_ _)); refine blk_put (cs := #[.int .i64 ((rd_T23 y166 x23_1).f0), .int .i64 0, .int .i64 0]) ?_ 1 _ rfl; (with_reducible repeat (first | refine blk_drewN ?_ _ | refine blk_drew ?_ | refine blk_alloc ?_ _)); refine blk_put (cs := #[.int .i64 0, .int .i64 0, .int .i64 0]) ?_ 0 _ rfl; (with_reducible repeat (first | refine blk_drewN ?_ _ | refine blk_drew ?_ | refine blk_alloc ?_ _)); exact BK170.out) hb); have n6_ := Aside0.mk (below_step (by repeat (first | (with_reducible first | exact HB.out | apply below_alloc | apply pw_below_drewN | apply below_drew1 | refine below_set ?_ (IsS54.ge HI160.out) | refine below_set ?_ GE157.out | refine below_set ?_ GE165.out | refine below_set ?_ GE170.out) | exact HB.out)) hb); clear HO_21; clear BK157; clear BK165; clear HI160; clear BK170; clear HB; have HO_21 := n0_; have HO173 := n1_; have BK157 := n2_; have BK165 := n3_; have HI160 := n4_; have BK170 := n5_; have HB := n6_; clear n0_ n1_ n2_ n3_ n4_ n5_ n6_; clear hb ho30; obtain ⟨Ao31, co31, eo31⟩ := Kd.R_slice HO173.out; subst eo31) | ((with_reducible refine gate_callee (f := 11) rfl ?_); refine goesL_ (some 32) rfl rfl Tryd.func11 (by kernel_rfl) rfl #[.pointer (some ⟨g160, 0, none⟩), .slice Ao31 y171.length co31] rfl (by (try simp only [List.map_toArray, List.map_cons, List.map_nil]); first | done | rfl | (simp only [List.length_drop, List.length_take]; rfl)) ?_; (with_reducible refine (kauditmill_Case_Pick.calls g160 t158 x161001_1 _ _ y171 t174 t175 w _ ?side1 ?side2 ?side3 ?side4 ?side5 A22.out).mono ?_); (case side1 => repeat (first | (with_reducible first | exact HI160.out | apply IsS54.alloc | apply IsS54.drewN | apply IsS54.drew | apply IsS54.set_1 | refine IsS54.far ?_ NB160_157.out _ | refine IsS54.far ?_ NB160_165.out _ | refine IsS54.far ?_ NB160_170.out _) | exact HI160.out)); (case side2 => repeat (first | (with_reducible first | exact HB.out | apply below_alloc | apply pw_below_drewN | apply below_drew1 | refine below_set ?_ (IsS54.ge HI160.out) | refine below_set ?_ GE157.out | refine below_set ?_ GE165.out | refine below_set ?_ GE170.out) | exact HB.out)); (case side3 => repeat (first | exact (Kd.R_reads' HO173.out).2.2 | (with_reducible refine Kd.C_alloc ?_ _) | (with_reducible refine Kd.C_drewN ?_ _) | (with_reducible refine Kd.C_drew ?_))); (case side4 => exact (Kd.R_reads' HO173.out).2.1); (case side5 => exact far_slice (IsS54.own_ne HI160.out HO173.out (by decide))); rintro e w32 ⟨rfl, hi, hb, hk⟩; refine ⟨_, rfl, ?_⟩; have n0_ := Aside0.mk (Kd.R_mono (Kd.R_keep (IsS54.apart (show IsS54 w _ g160 t158 x161001_1 from by repeat (first | (with_reducible first | exact HI160.out | apply IsS54.alloc | apply IsS54.drewN | apply IsS54.drew | apply IsS54.set_1 | refine IsS54.far ?_ NB160_157.out _ | refine IsS54.far ?_ NB160_165.out _ | refine IsS54.far ?_ NB160_170.out _) | exact HI160.out)) (by (with_reducible repeat (first | apply Kd.R_alloc | apply Kd.R_drewN | apply Kd.R_drew)); exact HO_21.out) (by decide)) hk (fun _ h => h.2)) (fun _ h => h.1)); have n1_ := Aside0.mk (KeepBut.blk hk (g' := gb157) (o := .cells #[.int .i64 a0_0, .int .i64 a0_1, .int .i64 a0_2] 23 (0, 0)) (by (with_reducible repeat (first | refine blk_drewN ?_ _ | refine blk_drew ?_ | refine blk_alloc ?_ _)); exact BK157.out) NB157_160.out (by simp)); have n2_ := Aside0.mk (KeepBut.blk hk (g' := gb165) (o := .cells #[.int .i64 t161, .int .i64 t162, .int .i64 t163] 23 (0, 0)) (by (with_reducible repeat (first | refine blk_drewN ?_ _ | refine blk_drew ?_ | refine blk_alloc ?_ _)); exact BK165.out) NB165_160.out (by simp)); have n3_ := Aside0.mk (KeepBut.blk hk (g' := gb170) (o := .cells #[.int .i64 ((rd_T23 y166 x23_1).f0), .int .i64 ((rd_T23 y166 x23_1).f1), .int .i64 ((rd_T23 y166 x23_1).f2)] 23 (0, 0)) (by (with_reducible repeat (first | refine blk_drewN ?_ _ | refine blk_drew ?_ | refine blk_alloc ?_ _)); exact BK170.out) NB170_160.out (by simp)); have n4_ := Aside0.mk (Kd.R_mono (Kd.R_keep (IsS54.apart (show IsS54 w _ g160 t158 x161001_1 from by repeat (first | (with_reducible first | exact HI160.out | apply IsS54.alloc | apply IsS54.drewN | apply IsS54.drew | apply IsS54.set_1 | refine IsS54.far ?_ NB160_157.out _ | refine IsS54.far ?_ NB160_165.out _ | refine IsS54.far ?_ NB160_170.out _) | exact HI160.out)) (by (with_reducible repeat (first | apply Kd.R_alloc | apply Kd.R_drewN | apply Kd.R_drew)); exact HO173.out) (by decide)) hk (fun _ h => h.2)) (fun _ h => h.1)); have n5_ := Aside0.mk (hb); have n6_ := Aside0.mk (hi); clear HO_21; clear BK157; clear BK165; clear BK170; clear HO173; clear HB; clear HI160; have HO_21 := n0_; have BK157 := n1_; have BK165 := n2_; have BK170 := n3_; have HO173 := n4_; have HB := n5_; have HI160 := n6_; clear n0_ n1_ n2_ n3_ n4_ n5_ n6_; (try clear hb); (try clear hb2); (try clear hk); (try clear hi)) | ((with_reducible refine gate_dst (N := 34) rfl ?_); refine Kd.R_lit (Kd.int .i64) _ 3 ?hg (N := 34) ?hd (xs := ([1, 4, 150] : List Int)) (inner := [.int .i64 1, .int .i64 4, .int .i64 150]) (ok := fun _ => True) (okp := fun _ => True) ?hr ?hp (fun _ hk => hk) trivial (Below.refl _ _) (Nat.le_refl _) (by simp) ?_; (case hd => rfl); (case hg => rfl); (case hr => first | (go_simp; done) | (go_simp; rfl)); (case hp => exact (Reps.one (show Kd.M (Kd.int .i64) _ _ _ 1 [.int .i64 1] from rfl) (Reps.one (show Kd.M (Kd.int .i64) _ _ _ 4 [.int .i64 4] from rfl) (Reps.one (show Kd.M (Kd.int .i64) _ _ _ 150 [.int .i64 150] from rfl) (Reps.none _ _))))); intro v177 w33 ho34 hb hg_ hnew_; clear hg_ hnew_; (first | rw [← Ny176.out] at ho34 | (simp only [Int.reduceToNat] at ho34; rw [← Ny176.out] at ho34)); have n0_ := Aside0.mk (Kd.R_below (by (with_reducible repeat (first | apply Kd.R_alloc | apply Kd.R_drewN | apply Kd.R_drew)); exact HO_21.out) hb); have n1_ := Aside0.mk (Kd.R_elder' (by (with_reducible repeat (first | apply Kd.R_alloc | apply Kd.R_drewN | apply Kd.R_drew)); exact HO173.out) (Kd.R_base ho34) hb); have n2_ := Aside0.mk (Kd.R_lower (Kd.R_new' ho34 (Kd.R_lt (by (with_reducible repeat (first | apply Kd.R_alloc | apply Kd.R_drewN | apply Kd.R_drew)); exact HO173.out))) (below_size (by repeat (first | (with_reducible first | exact HB.out | apply below_alloc | apply pw_below_drewN | apply below_drew1 | refine below_set ?_ (IsS54.ge HI160.out) | refine below_set ?_ GE157.out | refine below_set ?_ GE165.out | refine below_set ?_ GE170.out) | exact HB.out)))); have n3_ := Aside0.mk (blk_below (g := gb157) (o := .cells #[.int .i64 a0_0, .int .i64 a0_1, .int .i64 a0_2] 23 (0, 0)) (by (with_reducible repeat (first | refine blk_drewN ?_ _ | refine blk_drew ?_ | refine blk_alloc ?_ _)); exact BK157.out) hb); have n4_ := Aside0.mk (blk_below (g := gb165) (o := .cells #[.int .i64 t161, .int .i64 t162, .int .i64 t163] 23 (0, 0)) (by (with_reducible repeat (first | refine blk_drewN ?_ _ | refine blk_drew ?_ | refine blk_alloc ?_ _)); exact BK165.out) hb); have n5_ := Aside0.mk (IsS54.below (by repeat (first | (with_reducible first | exact HI160.out | apply IsS54.alloc | apply IsS54.drewN | apply IsS54.drew | apply IsS54.set_1 | refine IsS54.far ?_ NB160_157.out _ | refine IsS54.far ?_ NB160_165.out _ | refine IsS54.far ?_ NB160_170.out _) | exact HI160.out)) hb); have n6_ := Aside0.mk (blk_below (g := gb170) (o := .cells #[.int .i64 ((rd_T23 y166 x23_1).f0), .int .i64 ((rd_T23 y166 x23_1).f1), .int .i64 ((rd_T23 y166 x23_1).f2)] 23 (0, 0)) (by (with_reducible repeat (first | refine blk_drewN ?_ _ | refine blk_drew ?_ | refine blk_alloc ?_ _)); exact BK170.out) hb); have n7_ := Aside0.mk (below_step (by repeat (first | (with_reducible first | exact HB.out | apply below_alloc | apply pw_below_drewN | apply below_drew1 | refine below_set ?_ (IsS54.ge HI160.out) | refine below_set ?_ GE157.out | refine below_set ?_ GE165.out | refine below_set ?_ GE170.out) | exact HB.out)) hb); clear HO_21; clear HO173; clear BK157; clear BK165; clear HI160; clear BK170; clear HB; have HO_21 := n0_; have HO173 := n1_; have HO178 := n2_; have BK157 := n3_; have BK165 := n4_; have HI160 := n5_; have BK170 := n6_; have HB := n7_; clear n0_ n1_ n2_ n3_ n4_ n5_ n6_ n7_; clear hb ho34; obtain ⟨Ao35, co35, eo35⟩ := Kd.R_slice HO178.out; subst eo35) | ((with_reducible refine gate_callee (f := 11) rfl ?_); refine goesL_ (some 35) rfl rfl Tryd.func11 (by kernel_rfl) rfl #[.pointer (some ⟨g160, 0, none⟩), .slice Ao35 y176.length co35] rfl (by (try simp only [List.map_toArray, List.map_cons, List.map_nil]); first | done | rfl | (simp only [List.length_drop, List.length_take]; rfl)) ?_; (with_reducible refine (kauditmill_Case_Pick.calls g160 t158 t175 _ _ y176 t179 t180 w _ ?side1 ?side2 ?side3 ?side4 ?side5 A23.out).mono ?_); (case side1 => repeat (first | (with_reducible first | exact HI160.out | apply IsS54.alloc | apply IsS54.drewN | apply IsS54.drew | apply IsS54.set_1 | refine IsS54.far ?_ NB160_157.out _ | refine IsS54.far ?_ NB160_165.out _ | refine IsS54.far ?_ NB160_170.out _) | exact HI160.out)); (case side2 => repeat (first | (with_reducible first | exact HB.out | apply below_alloc | apply pw_below_drewN | apply below_drew1 | refine below_set ?_ (IsS54.ge HI160.out) | refine below_set ?_ GE157.out | refine below_set ?_ GE165.out | refine below_set ?_ GE170.out) | exact HB.out)); (case side3 => repeat (first | exact (Kd.R_reads' HO178.out).2.2 | (with_reducible refine Kd.C_alloc ?_ _) | (with_reducible refine Kd.C_drewN ?_ _) | (with_reducible refine Kd.C_drew ?_))); (case side4 => exact (Kd.R_reads' HO178.out).2.1); (case side5 => exact far_slice (IsS54.own_ne HI160.out HO178.out (by decide))); rintro e w36 ⟨rfl, hi, hb, hk⟩; refine ⟨_, rfl, ?_⟩; have n0_ := Aside0.mk (Kd.R_mono (Kd.R_keep (IsS54.apart (show IsS54 w _ g160 t158 t175 from by repeat (first | (with_reducible first | exact HI160.out | apply IsS54.alloc | apply IsS54.drewN | apply IsS54.drew | apply IsS54.set_1 | refine IsS54.far ?_ NB160_157.out _ | refine IsS54.far ?_ NB160_165.out _ | refine IsS54.far ?_ NB160_170.out _) | exact HI160.out)) (by (with_reducible repeat (first | apply Kd.R_alloc | apply Kd.R_drewN | apply Kd.R_drew)); exact HO_21.out) (by decide)) hk (fun _ h => h.2)) (fun _ h => h.1)); have n1_ := Aside0.mk (KeepBut.blk hk (g' := gb157) (o := .cells #[.int .i64 a0_0, .int .i64 a0_1, .int .i64 a0_2] 23 (0, 0)) (by (with_reducible repeat (first | refine blk_drewN ?_ _ | refine blk_drew ?_ | refine blk_alloc ?_ _)); exact BK157.out) NB157_160.out (by simp)); have n2_ := Aside0.mk (KeepBut.blk hk (g' := gb165) (o := .cells #[.int .i64 t161, .int .i64 t162, .int .i64 t163] 23 (0, 0)) (by (with_reducible repeat (first | refine blk_drewN ?_ _ | refine blk_drew ?_ | refine blk_alloc ?_ _)); exact BK165.out) NB165_160.out (by simp)); have n3_ := Aside0.mk (KeepBut.blk hk (g' := gb170) (o := .cells #[.int .i64 ((rd_T23 y166 x23_1).f0), .int .i64 ((rd_T23 y166 x23_1).f1), .int .i64 ((rd_T23 y166 x23_1).f2)] 23 (0, 0)) (by (with_reducible repeat (first | refine blk_drewN ?_ _ | refine blk_drew ?_ | refine blk_alloc ?_ _)); exact BK170.out) NB170_160.out (by simp)); have n4_ := Aside0.mk (Kd.R_mono (Kd.R_keep (IsS54.apart (show IsS54 w _ g160 t158 t175 from by repeat (first | (with_reducible first | exact HI160.out | apply IsS54.alloc | apply IsS54.drewN | apply IsS54.drew | apply IsS54.set_1 | refine IsS54.far ?_ NB160_157.out _ | refine IsS54.far ?_ NB160_165.out _ | refine IsS54.far ?_ NB160_170.out _) | exact HI160.out)) (by (with_reducible repeat (first | apply Kd.R_alloc | apply Kd.R_drewN | apply Kd.R_drew)); exact HO173.out) (by decide)) hk (fun _ h => h.2)) (fun _ h => h.1)); have n5_ := Aside0.mk (Kd.R_mono (Kd.R_keep (IsS54.apart (show IsS54 w _ g160 t158 t175 from by repeat (first | (with_reducible first | exact HI160.out | apply IsS54.alloc | apply IsS54.drewN | apply IsS54.drew | apply IsS54.set_1 | refine IsS54.far ?_ NB160_157.out _ | refine IsS54.far ?_ NB160_165.out _ | refine IsS54.far ?_ NB160_170.out _) | exact HI160.out)) (by (with_reducible repeat (first | apply Kd.R_alloc | apply Kd.R_drewN | apply Kd.R_drew)); exact HO178.out) (by decide)) hk (fun _ h => h.2)) (fun _ h => h.1)); have n6_ := Aside0.mk (hb); have n7_ := Aside0.mk (hi); clear HO_21; clear BK157; clear BK165; clear BK170; clear HO173; clear HO178; clear HB; clear HI160; have HO_21 := n0_; have BK157 := n1_; have BK165 := n2_; have BK170 := n3_; have HO173 := n4_; have HO178 := n5_; have HB := n6_; have HI160 := n7_; clear n0_ n1_ n2_ n3_ n4_ n5_ n6_ n7_; (try clear hb); (try clear hb2); (try clear hk); (try clear hi)) | ((with_reducible refine gate_dst (N := 45) rfl ?_); refine Kd.R_lit k29 _ 29 ?hg (N := 45) ?hd (xs := ([(⟨a1, a2⟩ : S29), (⟨t174, t179⟩ : S29), (⟨a1, 1⟩ : S29), (⟨1, a2⟩ : S29), (⟨9223372036854775807, a2⟩ : S29), (⟨a1, (-9223372036854775808)⟩ : S29)] : List (S29))) (inner := [.int .i64 a1, .int .i64 a2, .int .i64 t174, .int .i64 t179, .int .i64 a1, .int .i64 1, .int .i64 1, .int .i64 a2, .int .i64 9223372036854775807, .int .i64 a2, .int .i64 a1, .int .i64 (-9223372036854775808)]) (ok := fun _ => True) (okp := fun _ => True) ?hr ?hp (fun _ hk => hk) trivial (Below.refl _ _) (Nat.le_refl _) (by simp) ?_; (case hd => rfl); (case hg => rfl); (case hr => first | (go_simp; done) | (go_simp; rfl)); (case hp => exact (Reps.c2 (show Kd.M k29 _ _ _ (⟨a1, a2⟩ : S29) [.int .i64 a1, .int .i64 a2] from (k29_mkM _ _ _ (⟨a1, a2⟩ : S29) )) (Reps.c2 (show Kd.M k29 _ _ _ (⟨t174, t179⟩ : S29) [.int .i64 t174, .int .i64 t179] from (k29_mkM _ _ _ (⟨t174, t179⟩ : S29) )) (Reps.c2 (show Kd.M k29 _ _ _ (⟨a1, 1⟩ : S29) [.int .i64 a1, .int .i64 1] from (k29_mkM _ _ _ (⟨a1, 1⟩ : S29) )) (Reps.c2 (show Kd.M k29 _ _ _ (⟨1, a2⟩ : S29) [.int .i64 1, .int .i64 a2] from (k29_mkM _ _ _ (⟨1, a2⟩ : S29) )) (Reps.c2 (show Kd.M k29 _ _ _ (⟨9223372036854775807, a2⟩ : S29) [.int .i64 9223372036854775807, .int .i64 a2] from (k29_mkM _ _ _ (⟨9223372036854775807, a2⟩ : S29) )) (Reps.c2 (show Kd.M k29 _ _ _ (⟨a1, (-9223372036854775808)⟩ : S29) [.int .i64 a1, .int .i64 (-9223372036854775808)] from (k29_mkM _ _ _ (⟨a1, (-9223372036854775808)⟩ : S29) )) (Reps.none _ _)))))))); intro v182 w37 ho38 hb hg_ hnew_; clear hg_ hnew_; (first | rw [← Ny181.out] at ho38 | (simp only [Int.reduceToNat] at ho38; rw [← Ny181.out] at ho38)); have n0_ := Aside0.mk (Kd.R_below (by (with_reducible repeat (first | apply Kd.R_alloc | apply Kd.R_drewN | apply Kd.R_drew)); exact HO_21.out) hb); have n1_ := Aside0.mk (Kd.R_below (by (with_reducible repeat (first | apply Kd.R_alloc | apply Kd.R_drewN | apply Kd.R_drew)); exact HO173.out) hb); have n2_ := Aside0.mk (Kd.R_below (by (with_reducible repeat (first | apply Kd.R_alloc | apply Kd.R_drewN | apply Kd.R_drew)); exact HO178.out) hb); have n3_ := Aside0.mk (Kd.R_lower ho38 (below_size (by repeat (first | (with_reducible first | exact HB.out | apply below_alloc | apply pw_below_drewN | apply below_drew1 | refine below_set ?_ (IsS54.ge HI160.out) | refine below_set ?_ GE157.out | refine below_set ?_ GE165.out | refine below_set ?_ GE170.out) | exact HB.out)))); have n4_ := Aside0.mk (blk_below (g := gb157) (o := .cells #[.int .i64 a0_0, .int .i64 a0_1, .int .i64 a0_2] 23 (0, 0)) (by (with_reducible repeat (first | refine blk_drewN ?_ _ | refine blk_drew ?_ | refine blk_alloc ?_ _)); exact BK157.out) hb); have n5_ := Aside0.mk (blk_below (g := gb165) (o := .cells #[.int .i64 t161, .int .i64 t162, .int .i64 t163] 23 (0, 0)) (by (with_reducible repeat (first | refine blk_drewN ?_ _ | refine blk_drew ?_ | refine blk_alloc ?_ _)); exact BK165.out) hb); have n6_ := Aside0.mk (IsS54.below (by repeat (first | (with_reducible first | exact HI160.out | apply IsS54.alloc | apply IsS54.drewN | apply IsS54.drew | apply IsS54.set_1 | refine IsS54.far ?_ NB160_157.out _ | refine IsS54.far ?_ NB160_165.out _ | refine IsS54.far ?_ NB160_170.out _) | exact HI160.out)) hb); have n7_ := Aside0.mk (blk_below (g := gb170) (o := .cells #[.int .i64 ((rd_T23 y166 x23_1).f0), .int .i64 ((rd_T23 y166 x23_1).f1), .int .i64 ((rd_T23 y166 x23_1).f2)] 23 (0, 0)) (by (with_reducible repeat (first | refine blk_drewN ?_ _ | refine blk_drew ?_ | refine blk_alloc ?_ _)); exact BK170.out) hb); have n8_ := Aside0.mk (below_step (by repeat (first | (with_reducible first | exact HB.out | apply below_alloc | apply pw_below_drewN | apply below_drew1 | refine below_set ?_ (IsS54.ge HI160.out) | refine below_set ?_ GE157.out | refine below_set ?_ GE165.out | refine below_set ?_ GE170.out) | exact HB.out)) hb); clear HO_21; clear HO173; clear HO178; clear BK157; clear BK165; clear HI160; clear BK170; clear HB; have HO_21 := n0_; have HO173 := n1_; have HO178 := n2_; have HO183 := n3_; have BK157 := n4_; have BK165 := n5_; have HI160 := n6_; have BK170 := n7_; have HB := n8_; clear n0_ n1_ n2_ n3_ n4_ n5_ n6_ n7_ n8_; clear hb ho38; obtain ⟨Ao39, co39, eo39⟩ := Kd.R_slice HO183.out; subst eo39))
            go_loopg [47] k1 (fun kq v47 w' => ∃ (x47_2 : Int), v47 = .int .i64 x47_2 ∧ Aside0 (kauditlaw26_RotateDue.l1 kq a1 a2 y166 (y166.length : Int) x23_1 y181 (y181.length : Int) x47_2 a0_0 a0_1 a0_2 t158 t180 t161 t162 t163 ((rd_T23 y166 x23_1).f0) ((rd_T23 y166 x23_1).f1) ((rd_T23 y166 x23_1).f2) = some r) ∧ Aside0 (kq ≤ k1) ∧ Aside0 (Kd.R k23 23 w' w.heap.size (fun k_ => k_ ≠ gb157 ∧ k_ ≠ gb165 ∧ k_ ≠ gb170) (.slice (some ad169) y166.length co18) y166) ∧ Aside0 (Kd.R k29 29 w' w.heap.size (fun _ => True) (.slice Ao39 y181.length co39) y181) ∧ Aside0 (w'.heap[gb157]? = some (.cells #[.int .i64 a0_0, .int .i64 a0_1, .int .i64 a0_2] 23 (0, 0))) ∧ Aside0 (w'.heap[gb165]? = some (.cells #[.int .i64 t161, .int .i64 t162, .int .i64 t163] 23 (0, 0))) ∧ Aside0 (w'.heap[gb170]? = some (.cells #[.int .i64 ((rd_T23 y166 x23_1).f0), .int .i64 ((rd_T23 y166 x23_1).f1), .int .i64 ((rd_T23 y166 x23_1).f2)] 23 (0, 0))) ∧ Aside0 (IsS54 w w' g160 t158 t180) ∧ Aside0 (Below w.heap.size w w'))
            case atStart => exact ⟨(0), (by first | rfl | (simp; done) | (simp [*]; done)), H', ⟨Nat.le_refl _⟩, ⟨by (with_reducible repeat (first | apply Kd.R_alloc | apply Kd.R_drewN | apply Kd.R_drew)); exact Kd.R_mono HO_21.out (fun _ hk => ⟨hk.1.1, ⟨hk.1.2, hk.2⟩⟩)⟩, ⟨by (with_reducible repeat (first | apply Kd.R_alloc | apply Kd.R_drewN | apply Kd.R_drew)); exact HO183.out⟩, ⟨by (with_reducible repeat (first | refine blk_drewN ?_ _ | refine blk_drew ?_ | refine blk_alloc ?_ _)); exact BK157.out⟩, ⟨by (with_reducible repeat (first | refine blk_drewN ?_ _ | refine blk_drew ?_ | refine blk_alloc ?_ _)); exact BK165.out⟩, ⟨by (with_reducible repeat (first | refine blk_drewN ?_ _ | refine blk_drew ?_ | refine blk_alloc ?_ _)); exact BK170.out⟩, ⟨by repeat (first | (with_reducible first | exact HI160.out | apply IsS54.alloc | apply IsS54.drewN | apply IsS54.drew | apply IsS54.set_1 | refine IsS54.far ?_ NB160_157.out _ | refine IsS54.far ?_ NB160_165.out _ | refine IsS54.far ?_ NB160_170.out _) | exact HI160.out)⟩, ⟨by repeat (first | (with_reducible first | exact HB.out | apply below_alloc | apply pw_below_drewN | apply below_drew1 | refine below_set ?_ (IsS54.ge HI160.out) | refine below_set ?_ GE157.out | refine below_set ?_ GE165.out | refine below_set ?_ GE170.out) | exact HB.out)⟩⟩
            case round =>
              clear H'
              try clear c1
              try clear p1
              try clear q1
              try clear hx1
              try clear c2
              try clear p2
              try clear c3
              try clear c9
              try clear c10
              try clear c11
              try clear c12
              try clear c14
              try clear p16
              try clear q16
              try clear hx16
              try clear c19
              try clear c19b0
              try clear c20
              try clear c20b0
              try clear c21
              try clear c21b0
              try clear c25
              try clear c26
              try clear c27
              try clear hcz13_0
              try clear hcz13_1
              try clear hcz13_2
              try clear hcz15_0
              try clear hcz15_1
              try clear hcz15_2
              try clear hcz28_0
              try clear hcz28_1
              try clear hcz28_2
              try clear hfz13_0
              try clear hfz13_1
              try clear hfz13_2
              try clear hfz15_0
              try clear hfz15_1
              try clear hfz15_2
              try clear hfz28_0
              try clear hfz28_1
              try clear hfz28_2
              try clear hx169_0
              try clear hx169_1
              try clear hx169_2
              try clear p169
              try clear p2
              try clear q169
              obtain ⟨x47_2, rfl, HA, HK2, HO_21, HO_45, BK157, BK165, BK170, HI160, HB⟩ := hrel
              cases gk with
              | zero => exact absurd HA.out (by simp [kauditlaw26_RotateDue.l1])
              | succ k2 =>
                have H := HA.out
                clear HA
                simp only [kauditlaw26_RotateDue.l1] at H
                by_cases c40 : x47_2 < (y181.length : Int)
                · rw [if_pos c40] at H
                  have c40b0 : decide (x47_2 < (y181.length : Int)) = true := decide_eq_true c40
                  clear c40
                  by_cases c41 : 0 ≤ x47_2
                  · rw [if_pos c41] at H
                    have c41b0 : decide (0 ≤ x47_2) = true := decide_eq_true c41
                    clear c41
                    by_cases c42 : x47_2 < (y181.length : Int)
                    · rw [if_pos c42] at H
                      have c42b0 : decide (x47_2 < (y181.length : Int)) = true := decide_eq_true c42
                      clear c42
                      replace H := Option.bind_eq_some_iff.mp H
                      obtain ⟨t186, A430, H⟩ := H
                      replace H : ((kauditref26_Due.f k2 ((rd_T23 y166 x23_1).f0) ((rd_T23 y166 x23_1).f1) ((rd_T23 y166 x23_1).f2) ((rd_T29 y181 x47_2).f0) ((rd_T29 y181 x47_2).f1)).bind fun t187 => (if (t186 != t187) = true then (some false) else (kauditlaw26_RotateDue.l1 k2 a1 a2 y166 (y166.length : Int) x23_1 y181 (y181.length : Int) (wrap64 (x47_2 + 1)) a0_0 a0_1 a0_2 t158 t180 t161 t162 t163 ((rd_T23 y166 x23_1).f0) ((rd_T23 y166 x23_1).f1) ((rd_T23 y166 x23_1).f2)))) = some r := H
                      have A43 := Aside0.mk A430
                      clear A430
                      replace H := Option.bind_eq_some_iff.mp H
                      obtain ⟨t187, A440, H⟩ := H
                      replace H : (if (t186 != t187) = true then (some false) else (kauditlaw26_RotateDue.l1 k2 a1 a2 y166 (y166.length : Int) x23_1 y181 (y181.length : Int) (wrap64 (x47_2 + 1)) a0_0 a0_1 a0_2 t158 t180 t161 t162 t163 ((rd_T23 y166 x23_1).f0) ((rd_T23 y166 x23_1).f1) ((rd_T23 y166 x23_1).f2))) = some r := H
                      have A44 := Aside0.mk A440
                      clear A440
                      by_cases c45 : (t186 != t187) = true
                      · rw [if_pos c45] at H
                        have c45b0 : (t186 != t187) = true := c45
                        (try (have c45b1 : decide (t186 = t187) = false := by simpa using c45))
                        (try (have c45b2 : (t186 == t187) = false := by simpa using c45))
                        (try (have c45b3 : ¬ (t186 = t187) := by simpa using c45))
                        clear c45
                        obtain rfl := Option.some.inj H
                        have p184 : 0 ≤ (x47_2 : Int) := of_decide_eq_true (by first | (with_reducible assumption) | assumption)
                        have q184 : x47_2 < (y181.length : Int) := of_decide_eq_true (by first | (with_reducible assumption) | assumption)
                        obtain ⟨ad184, e184, hx184_0, hx184_1⟩ := at_T29 (Kd.R_reads' HO_45.out).2.2 x47_2 p184 q184
                        cases e184
                        replace p184 := eq_true p184
                        replace q184 := eq_true q184
                        try go_wp2_with (first | ((with_reducible refine gate_dst (N := 14) rfl ?_); refine box_event ?hg (N := 14) ?hd (cs := #[.int .i64 0, .int .i64 0]) (t := 29) ?hr ?_; (case hd => rfl); (case hg => rfl); (case hr => first | (go_simp; done) | (go_simp; rfl)); intro gb185 hg w46 hbox hb; have n0_ := Aside0.mk (Kd.R_below (by (with_reducible repeat (first | apply Kd.R_alloc | apply Kd.R_drewN | apply Kd.R_drew)); exact HO_21.out) hb); have n1_ := Aside0.mk (Kd.R_below (Kd.R_elderB (by (with_reducible repeat (first | apply Kd.R_alloc | apply Kd.R_drewN | apply Kd.R_drew)); exact HO_45.out) gb185 (Nat.le_of_eq hg.symm)) hb); have n2_ := Aside0.mk (blk_below (g := gb157) (o := .cells #[.int .i64 a0_0, .int .i64 a0_1, .int .i64 a0_2] 23 (0, 0)) (by (with_reducible repeat (first | refine blk_drewN ?_ _ | refine blk_drew ?_ | refine blk_alloc ?_ _)); exact BK157.out) hb); have n3_ := Aside0.mk (blk_below (g := gb165) (o := .cells #[.int .i64 t161, .int .i64 t162, .int .i64 t163] 23 (0, 0)) (by (with_reducible repeat (first | refine blk_drewN ?_ _ | refine blk_drew ?_ | refine blk_alloc ?_ _)); exact BK165.out) hb); have n4_ := Aside0.mk (blk_below (g := gb170) (o := .cells #[.int .i64 ((rd_T23 y166 x23_1).f0), .int .i64 ((rd_T23 y166 x23_1).f1), .int .i64 ((rd_T23 y166 x23_1).f2)] 23 (0, 0)) (by (with_reducible repeat (first | refine blk_drewN ?_ _ | refine blk_drew ?_ | refine blk_alloc ?_ _)); exact BK170.out) hb); have n5_ := Aside0.mk (IsS54.below (by repeat (first | (with_reducible first | exact HI160.out | apply IsS54.alloc | apply IsS54.drewN | apply IsS54.drew | apply IsS54.set_1 | refine IsS54.far ?_ NB160_157.out _ | refine IsS54.far ?_ NB160_165.out _ | refine IsS54.far ?_ NB160_170.out _) | exact HI160.out)) hb); have n6_ := Aside0.mk (below_step (by repeat (first | (with_reducible first | exact HB.out | apply below_alloc | apply pw_below_drewN | apply below_drew1 | refine below_set ?_ (IsS54.ge HI160.out) | refine below_set ?_ GE157.out | refine below_set ?_ GE165.out | refine below_set ?_ GE170.out) | exact HB.out)) hb); have n7_ := Aside0.mk (hbox); have n8_ := Aside0.mk ((by rw [hg]; exact (below_size (by repeat (first | (with_reducible first | exact HB.out | apply below_alloc | apply pw_below_drewN | apply below_drew1 | refine below_set ?_ (IsS54.ge HI160.out) | refine below_set ?_ GE157.out | refine below_set ?_ GE165.out | refine below_set ?_ GE170.out) | exact HB.out))) : w.heap.size ≤ gb185)); have n9_ := Aside0.mk ((by rw [hg]; exact (below_size (by repeat (first | (with_reducible first | exact HB.out | apply below_alloc | apply pw_below_drewN | apply below_drew1 | refine below_set ?_ (IsS54.ge HI160.out) | refine below_set ?_ GE157.out | refine below_set ?_ GE165.out | refine below_set ?_ GE170.out) | exact HB.out))) : w.heap.size ≤ gb185)); have n10_ := Aside0.mk ((by rw [hg]; exact Nat.ne_of_lt (blk_lt (g := gb157) (o := .cells #[.int .i64 a0_0, .int .i64 a0_1, .int .i64 a0_2] 23 (0, 0)) (by (with_reducible repeat (first | refine blk_drewN ?_ _ | refine blk_drew ?_ | refine blk_alloc ?_ _)); exact BK157.out)) : gb157 ≠ gb185)); have n11_ := Aside0.mk ((by rw [hg]; exact Nat.ne_of_gt (blk_lt (g := gb157) (o := .cells #[.int .i64 a0_0, .int .i64 a0_1, .int .i64 a0_2] 23 (0, 0)) (by (with_reducible repeat (first | refine blk_drewN ?_ _ | refine blk_drew ?_ | refine blk_alloc ?_ _)); exact BK157.out)) : gb185 ≠ gb157)); have n12_ := Aside0.mk ((by rw [hg]; exact Nat.ne_of_lt (blk_lt (g := gb165) (o := .cells #[.int .i64 t161, .int .i64 t162, .int .i64 t163] 23 (0, 0)) (by (with_reducible repeat (first | refine blk_drewN ?_ _ | refine blk_drew ?_ | refine blk_alloc ?_ _)); exact BK165.out)) : gb165 ≠ gb185)); have n13_ := Aside0.mk ((by rw [hg]; exact Nat.ne_of_gt (blk_lt (g := gb165) (o := .cells #[.int .i64 t161, .int .i64 t162, .int .i64 t163] 23 (0, 0)) (by (with_reducible repeat (first | refine blk_drewN ?_ _ | refine blk_drew ?_ | refine blk_alloc ?_ _)); exact BK165.out)) : gb185 ≠ gb165)); have n14_ := Aside0.mk ((by rw [hg]; exact Nat.ne_of_lt (blk_lt (g := gb170) (o := .cells #[.int .i64 ((rd_T23 y166 x23_1).f0), .int .i64 ((rd_T23 y166 x23_1).f1), .int .i64 ((rd_T23 y166 x23_1).f2)] 23 (0, 0)) (by (with_reducible repeat (first | refine blk_drewN ?_ _ | refine blk_drew ?_ | refine blk_alloc ?_ _)); exact BK170.out)) : gb170 ≠ gb185)); have n15_ := Aside0.mk ((by rw [hg]; exact Nat.ne_of_gt (blk_lt (g := gb170) (o := .cells #[.int .i64 ((rd_T23 y166 x23_1).f0), .int .i64 ((rd_T23 y166 x23_1).f1), .int .i64 ((rd_T23 y166 x23_1).f2)] 23 (0, 0)) (by (with_reducible repeat (first | refine blk_drewN ?_ _ | refine blk_drew ?_ | refine blk_alloc ?_ _)); exact BK170.out)) : gb185 ≠ gb170)); have n16_ := Aside0.mk ((by rw [hg]; exact Nat.ne_of_lt (IsS54.lt (show IsS54 w _ g160 t158 t180 from by repeat (first | (with_reducible first | exact HI160.out | apply IsS54.alloc | apply IsS54.drewN | apply IsS54.drew | apply IsS54.set_1 | refine IsS54.far ?_ NB160_157.out _ | refine IsS54.far ?_ NB160_165.out _ | refine IsS54.far ?_ NB160_170.out _) | exact HI160.out))) : g160 ≠ gb185)); have n17_ := Aside0.mk ((by rw [hg]; exact Nat.ne_of_gt (IsS54.lt (show IsS54 w _ g160 t158 t180 from by repeat (first | (with_reducible first | exact HI160.out | apply IsS54.alloc | apply IsS54.drewN | apply IsS54.drew | apply IsS54.set_1 | refine IsS54.far ?_ NB160_157.out _ | refine IsS54.far ?_ NB160_165.out _ | refine IsS54.far ?_ NB160_170.out _) | exact HI160.out))) : gb185 ≠ g160)); clear HO_21; clear HO_45; clear BK157; clear BK165; clear BK170; clear HI160; clear HB; have HO_21 := n0_; have HO_45 := n1_; have BK157 := n2_; have BK165 := n3_; have BK170 := n4_; have HI160 := n5_; have HB := n6_; have BK185 := n7_; have GW185 := n8_; have GE185 := n9_; have NB157_185 := n10_; have NB185_157 := n11_; have NB165_185 := n12_; have NB185_165 := n13_; have NB170_185 := n14_; have NB185_170 := n15_; have NB160_185 := n16_; have NB185_160 := n17_; clear n0_ n1_ n2_ n3_ n4_ n5_ n6_ n7_ n8_ n9_ n10_ n11_ n12_ n13_ n14_ n15_ n16_ n17_; clear hb hbox hg; have hnb47 := NB185_157.out; have hnc47 := NB157_185.out; have hnb48 := NB185_165.out; have hnc48 := NB165_185.out; have hnb49 := NB185_170.out; have hnc49 := NB170_185.out; have hnb50 := NB185_160.out; have hnc50 := NB160_185.out; have hcz51_0 : w46.cell? ⟨gb185, 0, none⟩ = some (.int .i64 0) := (blk_cell BK185.out 0).trans rfl; have hcz51_1 : w46.cell? ⟨gb185, 1, none⟩ = some (.int .i64 0) := (blk_cell BK185.out 1).trans rfl; have hfz51_0 := blk_frozen BK185.out 0; have hfz51_1 := blk_frozen BK185.out 1))
                        have n0_ : Aside0 (Kd.R k23 23 ((w46.setCell ⟨gb185, 0, none⟩ (.int .i64 ((rd_T29 y181 x47_2).f0))).setCell ⟨gb185, 1, none⟩ (.int .i64 ((rd_T29 y181 x47_2).f1))) w.heap.size (fun k_ => k_ ≠ gb157 ∧ k_ ≠ gb165 ∧ k_ ≠ gb170) (.slice (some ad169) y166.length co18) y166) := ⟨by (with_reducible repeat (first | apply Kd.R_alloc | apply Kd.R_drewN | apply Kd.R_drew)); exact Kd.R_mono (Kd.R_far (p := ⟨gb185, 1, none⟩) (Kd.R_far (p := ⟨gb185, 0, none⟩) (Kd.R_types HO_21.out BK185.out (by decide)) (fun _ hk => hk.2) (.int .i64 ((rd_T29 y181 x47_2).f0))) (fun _ hk => hk.2) (.int .i64 ((rd_T29 y181 x47_2).f1))) (fun _ hk => ⟨hk.1.1, ⟨hk.1.2.1, hk.1.2.2⟩⟩)⟩
                        have n1_ : Aside0 (Kd.R k29 29 ((w46.setCell ⟨gb185, 0, none⟩ (.int .i64 ((rd_T29 y181 x47_2).f0))).setCell ⟨gb185, 1, none⟩ (.int .i64 ((rd_T29 y181 x47_2).f1))) w.heap.size (fun k_ => k_ ≠ gb185) (.slice (some ad184) y181.length co39) y181) := ⟨by (with_reducible repeat (first | apply Kd.R_alloc | apply Kd.R_drewN | apply Kd.R_drew)); exact Kd.R_mono (Kd.R_far (p := ⟨gb185, 1, none⟩) (Kd.R_far (p := ⟨gb185, 0, none⟩) (Kd.R_mono HO_45.out (fun k_ hk => (⟨hk, hk.2⟩ : _ ∧ k_ ≠ gb185))) (fun _ hk => hk.2) (.int .i64 ((rd_T29 y181 x47_2).f0))) (fun _ hk => hk.2) (.int .i64 ((rd_T29 y181 x47_2).f1))) (fun _ hk => hk.1.2)⟩
                        have n2_ : Aside0 (((w46.setCell ⟨gb185, 0, none⟩ (.int .i64 ((rd_T29 y181 x47_2).f0))).setCell ⟨gb185, 1, none⟩ (.int .i64 ((rd_T29 y181 x47_2).f1))).heap[gb157]? = some (.cells #[.int .i64 a0_0, .int .i64 a0_1, .int .i64 a0_2] 23 (0, 0))) := ⟨by (with_reducible repeat (first | refine blk_drewN ?_ _ | refine blk_drew ?_ | refine blk_alloc ?_ _)); refine blk_far ?_ NB157_185.out _; (with_reducible repeat (first | refine blk_drewN ?_ _ | refine blk_drew ?_ | refine blk_alloc ?_ _)); refine blk_far ?_ NB157_185.out _; (with_reducible repeat (first | refine blk_drewN ?_ _ | refine blk_drew ?_ | refine blk_alloc ?_ _)); exact BK157.out⟩
                        have n3_ : Aside0 (((w46.setCell ⟨gb185, 0, none⟩ (.int .i64 ((rd_T29 y181 x47_2).f0))).setCell ⟨gb185, 1, none⟩ (.int .i64 ((rd_T29 y181 x47_2).f1))).heap[gb165]? = some (.cells #[.int .i64 t161, .int .i64 t162, .int .i64 t163] 23 (0, 0))) := ⟨by (with_reducible repeat (first | refine blk_drewN ?_ _ | refine blk_drew ?_ | refine blk_alloc ?_ _)); refine blk_far ?_ NB165_185.out _; (with_reducible repeat (first | refine blk_drewN ?_ _ | refine blk_drew ?_ | refine blk_alloc ?_ _)); refine blk_far ?_ NB165_185.out _; (with_reducible repeat (first | refine blk_drewN ?_ _ | refine blk_drew ?_ | refine blk_alloc ?_ _)); exact BK165.out⟩
                        have n4_ : Aside0 (((w46.setCell ⟨gb185, 0, none⟩ (.int .i64 ((rd_T29 y181 x47_2).f0))).setCell ⟨gb185, 1, none⟩ (.int .i64 ((rd_T29 y181 x47_2).f1))).heap[gb170]? = some (.cells #[.int .i64 ((rd_T23 y166 x23_1).f0), .int .i64 ((rd_T23 y166 x23_1).f1), .int .i64 ((rd_T23 y166 x23_1).f2)] 23 (0, 0))) := ⟨by (with_reducible repeat (first | refine blk_drewN ?_ _ | refine blk_drew ?_ | refine blk_alloc ?_ _)); refine blk_far ?_ NB170_185.out _; (with_reducible repeat (first | refine blk_drewN ?_ _ | refine blk_drew ?_ | refine blk_alloc ?_ _)); refine blk_far ?_ NB170_185.out _; (with_reducible repeat (first | refine blk_drewN ?_ _ | refine blk_drew ?_ | refine blk_alloc ?_ _)); exact BK170.out⟩
                        have n5_ : Aside0 (((w46.setCell ⟨gb185, 0, none⟩ (.int .i64 ((rd_T29 y181 x47_2).f0))).setCell ⟨gb185, 1, none⟩ (.int .i64 ((rd_T29 y181 x47_2).f1))).heap[gb185]? = some (.cells #[.int .i64 ((rd_T29 y181 x47_2).f0), .int .i64 ((rd_T29 y181 x47_2).f1)] 29 (0, 0))) := ⟨by (with_reducible repeat (first | refine blk_drewN ?_ _ | refine blk_drew ?_ | refine blk_alloc ?_ _)); refine blk_put (cs := #[.int .i64 ((rd_T29 y181 x47_2).f0), .int .i64 0]) ?_ 1 _ rfl; (with_reducible repeat (first | refine blk_drewN ?_ _ | refine blk_drew ?_ | refine blk_alloc ?_ _)); refine blk_put (cs := #[.int .i64 0, .int .i64 0]) ?_ 0 _ rfl; (with_reducible repeat (first | refine blk_drewN ?_ _ | refine blk_drew ?_ | refine blk_alloc ?_ _)); exact BK185.out⟩
                        have n6_ : Aside0 (IsS54 w ((w46.setCell ⟨gb185, 0, none⟩ (.int .i64 ((rd_T29 y181 x47_2).f0))).setCell ⟨gb185, 1, none⟩ (.int .i64 ((rd_T29 y181 x47_2).f1))) g160 t158 t180) := ⟨by repeat (first | (with_reducible first | exact HI160.out | apply IsS54.alloc | apply IsS54.drewN | apply IsS54.drew | apply IsS54.set_1 | refine IsS54.far ?_ NB160_157.out _ | refine IsS54.far ?_ NB160_165.out _ | refine IsS54.far ?_ NB160_170.out _ | refine IsS54.far ?_ NB160_185.out _) | exact HI160.out)⟩
                        have n7_ : Aside0 (Below w.heap.size w ((w46.setCell ⟨gb185, 0, none⟩ (.int .i64 ((rd_T29 y181 x47_2).f0))).setCell ⟨gb185, 1, none⟩ (.int .i64 ((rd_T29 y181 x47_2).f1)))) := ⟨by repeat (first | (with_reducible first | exact HB.out | apply below_alloc | apply pw_below_drewN | apply below_drew1 | refine below_set ?_ (IsS54.ge HI160.out) | refine below_set ?_ GE157.out | refine below_set ?_ GE165.out | refine below_set ?_ GE170.out | refine below_set ?_ GE185.out) | exact HB.out)⟩
                        (try clear HO_21)
                        (try clear HO_45)
                        (try clear BK157)
                        (try clear BK165)
                        (try clear BK170)
                        (try clear BK185)
                        (try clear HI160)
                        (try clear HB)
                        generalize ((w46.setCell ⟨gb185, 0, none⟩ (.int .i64 ((rd_T29 y181 x47_2).f0))).setCell ⟨gb185, 1, none⟩ (.int .i64 ((rd_T29 y181 x47_2).f1))) = w52 at n0_ n1_ n2_ n3_ n4_ n5_ n6_ n7_ ⊢
                        have HO_21 := n0_
                        have HO_45 := n1_
                        have BK157 := n2_
                        have BK165 := n3_
                        have BK170 := n4_
                        have BK185 := n5_
                        have HI160 := n6_
                        have HB := n7_
                        clear n0_ n1_ n2_ n3_ n4_ n5_ n6_ n7_
                        have n0_ := Aside0.mk (Kd.R_drew HO_21.out)
                        have n1_ := Aside0.mk (Kd.R_drew HO_45.out)
                        have n2_ := Aside0.mk (blk_drew BK157.out)
                        have n3_ := Aside0.mk (blk_drew BK165.out)
                        have n4_ := Aside0.mk (blk_drew BK170.out)
                        have n5_ := Aside0.mk (blk_drew BK185.out)
                        have n6_ := Aside0.mk (IsS54.drew HI160.out)
                        have n7_ := Aside0.mk (below_drew1 HB.out)
                        clear HO_21
                        clear HO_45
                        clear BK157
                        clear BK165
                        clear BK170
                        clear BK185
                        clear HI160
                        clear HB
                        have HO_21 := n0_
                        have HO_45 := n1_
                        have BK157 := n2_
                        have BK165 := n3_
                        have BK170 := n4_
                        have BK185 := n5_
                        have HI160 := n6_
                        have HB := n7_
                        clear n0_ n1_ n2_ n3_ n4_ n5_ n6_ n7_
                        refine start_ (n := 13) (S := fun w' => w'.cell? ⟨gb170, 0, none⟩ = some (.int .i64 ((rd_T23 y166 x23_1).f0)) ∧ w'.cell? ⟨gb170, 1, none⟩ = some (.int .i64 ((rd_T23 y166 x23_1).f1)) ∧ w'.cell? ⟨gb170, 2, none⟩ = some (.int .i64 ((rd_T23 y166 x23_1).f2)) ∧ w'.cell? ⟨gb185, 0, none⟩ = some (.int .i64 ((rd_T29 y181 x47_2).f0)) ∧ w'.cell? ⟨gb185, 1, none⟩ = some (.int .i64 ((rd_T29 y181 x47_2).f1))) (ds := []) #[false, false, false, false, false, false, false, false, false, false, false, false, false] (by kernel_rfl) rfl rfl ⟨(blk_cell BK170.out 0).trans rfl, (blk_cell BK170.out 1).trans rfl, (blk_cell BK170.out 2).trans rfl, (blk_cell BK185.out 0).trans rfl, (blk_cell BK185.out 1).trans rfl⟩ (fun hHeld => ?_); refine with_tabW kauditlaw26_RotateDue.tab9 kauditlaw26_RotateDue.bits9 (fun HT_ HW_ => ?_)
                        generalize w52.drew = w53 at HO_21 HO_45 BK157 BK165 BK170 BK185 HI160 HB hHeld ⊢
                        refine pure_ (i := 1) (N := some 52) (v := ?_) (a' := ?_) #[false, true, false, false, false, false, false, false, false, false, false, false, false] rfl rfl (any_of HT_.out (by kernel_rfl)) (fun _ _ _ h => h) (Or.inl ⟨by rfl, ?_⟩) ?_ ?_
                        rotate_left
                        · intro w'
                          go_simp
                          with_reducible rfl
                        rotate_left
                        · simp only [Act.put, List.setIfInBounds_toArray, List.set_cons_zero, List.set_cons_succ, i64_w, i32_w]
                          rfl
                        refine pure_ (i := 3) (N := some 54) (v := ?_) (a' := ?_) #[false, true, false, true, false, false, false, false, false, false, false, false, false] rfl rfl (any_of HT_.out (by kernel_rfl)) (fun _ _ _ h => h) (Or.inl ⟨by rfl, ?_⟩) ?_ ?_
                        rotate_left
                        · intro w'
                          go_simp
                          with_reducible rfl
                        rotate_left
                        · simp only [Act.put, List.setIfInBounds_toArray, List.set_cons_zero, List.set_cons_succ, i64_w, i32_w]
                          rfl
                        refine pure_ (i := 7) (N := some 58) (v := ?_) (a' := ?_) #[false, true, false, true, false, false, false, true, false, false, false, false, false] rfl rfl (any_of HT_.out (by kernel_rfl)) (fun _ _ _ h => h) (Or.inl ⟨by rfl, ?_⟩) ?_ ?_
                        rotate_left
                        · intro w'
                          go_simp
                          with_reducible rfl
                        rotate_left
                        · simp only [Act.put, List.setIfInBounds_toArray, List.set_cons_zero, List.set_cons_succ, i64_w, i32_w]
                          rfl
                        refine pure_ (i := 9) (N := some 60) (v := ?_) (a' := ?_) #[false, true, false, true, false, false, false, true, false, true, false, false, false] rfl rfl (any_of HT_.out (by kernel_rfl)) (fun _ _ _ h => h) (Or.inl ⟨by rfl, ?_⟩) ?_ ?_
                        rotate_left
                        · intro w'
                          go_simp
                          with_reducible rfl
                        rotate_left
                        · simp only [Act.put, List.setIfInBounds_toArray, List.set_cons_zero, List.set_cons_succ, i64_w, i32_w]
                          rfl
                        refine take_ (i := 0) (N := some 51) (v := ?_) (a' := ?_) #[true, true, false, true, false, false, false, true, false, true, false, false, false] rfl rfl (take_ofW HT_.out HW_.out (by kernel_rfl)) (fun _ _ _ h => h) (Or.inl ⟨by rfl, ?_⟩) hHeld ?_ ?_
                        rotate_left
                        · rintro w' ⟨s0, s1, s2, s3, s4⟩
                          go_simp
                          with_reducible rfl
                        rotate_left
                        · simp only [Act.put, List.setIfInBounds_toArray, List.set_cons_zero, List.set_cons_succ, i64_w, i32_w]
                          rfl
                        refine take_ (i := 2) (N := some 53) (v := ?_) (a' := ?_) #[true, true, true, true, false, false, false, true, false, true, false, false, false] rfl rfl (take_ofW HT_.out HW_.out (by kernel_rfl)) (fun _ _ _ h => h) (Or.inl ⟨by rfl, ?_⟩) hHeld ?_ ?_
                        rotate_left
                        · rintro w' ⟨s0, s1, s2, s3, s4⟩
                          go_simp
                          with_reducible rfl
                        rotate_left
                        · simp only [Act.put, List.setIfInBounds_toArray, List.set_cons_zero, List.set_cons_succ, i64_w, i32_w]
                          rfl
                        refine take_ (i := 4) (N := some 55) (v := ?_) (a' := ?_) #[true, true, true, true, true, false, false, true, false, true, false, false, false] rfl rfl (take_ofW HT_.out HW_.out (by kernel_rfl)) (fun _ _ _ h => h) (Or.inl ⟨by rfl, ?_⟩) hHeld ?_ ?_
                        rotate_left
                        · rintro w' ⟨s0, s1, s2, s3, s4⟩
                          go_simp
                          with_reducible rfl
                        rotate_left
                        · simp only [Act.put, List.setIfInBounds_toArray, List.set_cons_zero, List.set_cons_succ, i64_w, i32_w]
                          rfl
                        refine take_ (i := 6) (N := some 57) (v := ?_) (a' := ?_) #[true, true, true, true, true, false, true, true, false, true, false, false, false] rfl rfl (take_ofW HT_.out HW_.out (by kernel_rfl)) (fun _ _ _ h => h) (Or.inl ⟨by rfl, ?_⟩) hHeld ?_ ?_
                        rotate_left
                        · rintro w' ⟨s0, s1, s2, s3, s4⟩
                          go_simp
                          with_reducible rfl
                        rotate_left
                        · simp only [Act.put, List.setIfInBounds_toArray, List.set_cons_zero, List.set_cons_succ, i64_w, i32_w]
                          rfl
                        refine take_ (i := 8) (N := some 59) (v := ?_) (a' := ?_) #[true, true, true, true, true, false, true, true, true, true, false, false, false] rfl rfl (take_ofW HT_.out HW_.out (by kernel_rfl)) (fun _ _ _ h => h) (Or.inl ⟨by rfl, ?_⟩) hHeld ?_ ?_
                        rotate_left
                        · rintro w' ⟨s0, s1, s2, s3, s4⟩
                          go_simp
                          with_reducible rfl
                        rotate_left
                        · simp only [Act.put, List.setIfInBounds_toArray, List.set_cons_zero, List.set_cons_succ, i64_w, i32_w]
                          rfl
                        refine take_ (i := 10) (N := some 61) (v := ?_) (a' := ?_) #[true, true, true, true, true, false, true, true, true, true, true, false, false] rfl rfl (take_ofW HT_.out HW_.out (by kernel_rfl)) (fun _ _ _ h => h) (Or.inl ⟨by rfl, ?_⟩) hHeld ?_ ?_
                        rotate_left
                        · rintro w' ⟨s0, s1, s2, s3, s4⟩
                          go_simp
                          with_reducible rfl
                        rotate_left
                        · simp only [Act.put, List.setIfInBounds_toArray, List.set_cons_zero, List.set_cons_succ, i64_w, i32_w]
                          rfl
                        refine one_ (i := 5) (N := some 56) #[true, true, true, true, true, true, true, true, true, true, true, false, false] rfl rfl (one_of HT_.out (by kernel_rfl)) (by decide) (fun K hK => ?_)
                        refine goes_ Tryd.func12 (by kernel_rfl) rfl #[.agg #[.int .i64 ((rd_T23 y166 x23_1).f0), .int .i64 ((rd_T23 y166 x23_1).f1), .int .i64 ((rd_T23 y166 x23_1).f2)], .int .i64 ((rd_T29 y181 x47_2).f0), .int .i64 ((rd_T29 y181 x47_2).f1)] (by rfl) rfl rfl (by (try simp only [List.map_toArray, List.map_cons, List.map_nil]); first | done | rfl | (simp only [List.length_drop, List.length_take]; rfl)) ?_
                        with_reducible refine (rotate_Due.calls ((rd_T23 y166 x23_1).f0) ((rd_T23 y166 x23_1).f1) ((rd_T23 y166 x23_1).f2) ((rd_T29 y181 x47_2).f0) ((rd_T29 y181 x47_2).f1) t186 _ A43.out).mono ?_
                        rintro e w54 ⟨rfl, hb⟩
                        refine ⟨_, rfl, ?_⟩
                        have n0_ := Aside0.mk (Kd.R_below (by (with_reducible repeat (first | apply Kd.R_alloc | apply Kd.R_drewN | apply Kd.R_drew)); exact HO_21.out) hb)
                        have n1_ := Aside0.mk (Kd.R_below (by (with_reducible repeat (first | apply Kd.R_alloc | apply Kd.R_drewN | apply Kd.R_drew)); exact HO_45.out) hb)
                        have n2_ := Aside0.mk (blk_below (g := gb157) (o := .cells #[.int .i64 a0_0, .int .i64 a0_1, .int .i64 a0_2] 23 (0, 0)) (by (with_reducible repeat (first | refine blk_drewN ?_ _ | refine blk_drew ?_ | refine blk_alloc ?_ _)); exact BK157.out) hb)
                        have n3_ := Aside0.mk (blk_below (g := gb165) (o := .cells #[.int .i64 t161, .int .i64 t162, .int .i64 t163] 23 (0, 0)) (by (with_reducible repeat (first | refine blk_drewN ?_ _ | refine blk_drew ?_ | refine blk_alloc ?_ _)); exact BK165.out) hb)
                        have n4_ := Aside0.mk (blk_below (g := gb170) (o := .cells #[.int .i64 ((rd_T23 y166 x23_1).f0), .int .i64 ((rd_T23 y166 x23_1).f1), .int .i64 ((rd_T23 y166 x23_1).f2)] 23 (0, 0)) (by (with_reducible repeat (first | refine blk_drewN ?_ _ | refine blk_drew ?_ | refine blk_alloc ?_ _)); exact BK170.out) hb)
                        have n5_ := Aside0.mk (IsS54.below (by repeat (first | (with_reducible first | exact HI160.out | apply IsS54.alloc | apply IsS54.drewN | apply IsS54.drew | apply IsS54.set_1 | refine IsS54.far ?_ NB160_157.out _ | refine IsS54.far ?_ NB160_165.out _ | refine IsS54.far ?_ NB160_170.out _ | refine IsS54.far ?_ NB160_185.out _) | exact HI160.out)) hb)
                        have n6_ := Aside0.mk (blk_below (g := gb185) (o := .cells #[.int .i64 ((rd_T29 y181 x47_2).f0), .int .i64 ((rd_T29 y181 x47_2).f1)] 29 (0, 0)) (by (with_reducible repeat (first | refine blk_drewN ?_ _ | refine blk_drew ?_ | refine blk_alloc ?_ _)); exact BK185.out) hb)
                        have n7_ := Aside0.mk (below_step (by repeat (first | (with_reducible first | exact HB.out | apply below_alloc | apply pw_below_drewN | apply below_drew1 | refine below_set ?_ (IsS54.ge HI160.out) | refine below_set ?_ GE157.out | refine below_set ?_ GE165.out | refine below_set ?_ GE170.out | refine below_set ?_ GE185.out) | exact HB.out)) hb)
                        clear HO_21
                        clear HO_45
                        clear BK157
                        clear BK165
                        clear BK170
                        clear HI160
                        clear BK185
                        clear HB
                        have HO_21 := n0_
                        have HO_45 := n1_
                        have BK157 := n2_
                        have BK165 := n3_
                        have BK170 := n4_
                        have HI160 := n5_
                        have BK185 := n6_
                        have HB := n7_
                        clear n0_ n1_ n2_ n3_ n4_ n5_ n6_ n7_
                        (try clear hb)
                        (try clear hb2)
                        (try clear hk)
                        (try clear hi)
                        refine hK.out _ _ ⟨(blk_cell BK170.out 0).trans rfl, (blk_cell BK170.out 1).trans rfl, (blk_cell BK170.out 2).trans rfl, (blk_cell BK185.out 0).trans rfl, (blk_cell BK185.out 1).trans rfl⟩ (fun hHeld => ?_)
                        clear hK K
                        refine norm_ (a' := ?_) ?_ ?_
                        rotate_left
                        · show Act.put _ (some 56) _ = _
                          simp only [Act.put, List.setIfInBounds_toArray, List.set_cons_zero, List.set_cons_succ, i64_w, i32_w]
                          rfl
                        refine one_ (i := 11) (N := some 62) #[true, true, true, true, true, true, true, true, true, true, true, true, false] rfl rfl (one_of HT_.out (by kernel_rfl)) (by decide) (fun K hK => ?_)
                        refine goes_ Tryd.func13 (by kernel_rfl) rfl #[.agg #[.int .i64 ((rd_T23 y166 x23_1).f0), .int .i64 ((rd_T23 y166 x23_1).f1), .int .i64 ((rd_T23 y166 x23_1).f2)], .int .i64 ((rd_T29 y181 x47_2).f0), .int .i64 ((rd_T29 y181 x47_2).f1)] (by rfl) rfl rfl (by (try simp only [List.map_toArray, List.map_cons, List.map_nil]); first | done | rfl | (simp only [List.length_drop, List.length_take]; rfl)) ?_
                        with_reducible refine (kauditref26_Due.calls k2 ((rd_T23 y166 x23_1).f0) ((rd_T23 y166 x23_1).f1) ((rd_T23 y166 x23_1).f2) ((rd_T29 y181 x47_2).f0) ((rd_T29 y181 x47_2).f1) t187 _ A44.out).mono ?_
                        rintro e w55 ⟨rfl, hb⟩
                        refine ⟨_, rfl, ?_⟩
                        have n0_ := Aside0.mk (Kd.R_below (by (with_reducible repeat (first | apply Kd.R_alloc | apply Kd.R_drewN | apply Kd.R_drew)); exact HO_21.out) hb)
                        have n1_ := Aside0.mk (Kd.R_below (by (with_reducible repeat (first | apply Kd.R_alloc | apply Kd.R_drewN | apply Kd.R_drew)); exact HO_45.out) hb)
                        have n2_ := Aside0.mk (blk_below (g := gb157) (o := .cells #[.int .i64 a0_0, .int .i64 a0_1, .int .i64 a0_2] 23 (0, 0)) (by (with_reducible repeat (first | refine blk_drewN ?_ _ | refine blk_drew ?_ | refine blk_alloc ?_ _)); exact BK157.out) hb)
                        have n3_ := Aside0.mk (blk_below (g := gb165) (o := .cells #[.int .i64 t161, .int .i64 t162, .int .i64 t163] 23 (0, 0)) (by (with_reducible repeat (first | refine blk_drewN ?_ _ | refine blk_drew ?_ | refine blk_alloc ?_ _)); exact BK165.out) hb)
                        have n4_ := Aside0.mk (blk_below (g := gb170) (o := .cells #[.int .i64 ((rd_T23 y166 x23_1).f0), .int .i64 ((rd_T23 y166 x23_1).f1), .int .i64 ((rd_T23 y166 x23_1).f2)] 23 (0, 0)) (by (with_reducible repeat (first | refine blk_drewN ?_ _ | refine blk_drew ?_ | refine blk_alloc ?_ _)); exact BK170.out) hb)
                        have n5_ := Aside0.mk (IsS54.below (by repeat (first | (with_reducible first | exact HI160.out | apply IsS54.alloc | apply IsS54.drewN | apply IsS54.drew | apply IsS54.set_1 | refine IsS54.far ?_ NB160_157.out _ | refine IsS54.far ?_ NB160_165.out _ | refine IsS54.far ?_ NB160_170.out _ | refine IsS54.far ?_ NB160_185.out _) | exact HI160.out)) hb)
                        have n6_ := Aside0.mk (blk_below (g := gb185) (o := .cells #[.int .i64 ((rd_T29 y181 x47_2).f0), .int .i64 ((rd_T29 y181 x47_2).f1)] 29 (0, 0)) (by (with_reducible repeat (first | refine blk_drewN ?_ _ | refine blk_drew ?_ | refine blk_alloc ?_ _)); exact BK185.out) hb)
                        have n7_ := Aside0.mk (below_step (by repeat (first | (with_reducible first | exact HB.out | apply below_alloc | apply pw_below_drewN | apply below_drew1 | refine below_set ?_ (IsS54.ge HI160.out) | refine below_set ?_ GE157.out | refine below_set ?_ GE165.out | refine below_set ?_ GE170.out | refine below_set ?_ GE185.out) | exact HB.out)) hb)
                        clear HO_21
                        clear HO_45
                        clear BK157
                        clear BK165
                        clear BK170
                        clear HI160
                        clear BK185
                        clear HB
                        have HO_21 := n0_
                        have HO_45 := n1_
                        have BK157 := n2_
                        have BK165 := n3_
                        have BK170 := n4_
                        have HI160 := n5_
                        have BK185 := n6_
                        have HB := n7_
                        clear n0_ n1_ n2_ n3_ n4_ n5_ n6_ n7_
                        (try clear hb)
                        (try clear hb2)
                        (try clear hk)
                        (try clear hi)
                        refine hK.out _ _ ⟨(blk_cell BK170.out 0).trans rfl, (blk_cell BK170.out 1).trans rfl, (blk_cell BK170.out 2).trans rfl, (blk_cell BK185.out 0).trans rfl, (blk_cell BK185.out 1).trans rfl⟩ (fun hHeld => ?_)
                        clear hK K
                        refine norm_ (a' := ?_) ?_ ?_
                        rotate_left
                        · show Act.put _ (some 62) _ = _
                          simp only [Act.put, List.setIfInBounds_toArray, List.set_cons_zero, List.set_cons_succ, i64_w, i32_w]
                          rfl
                        refine pure_ (i := 12) (N := some 63) (v := ?_) (a' := ?_) #[true, true, true, true, true, true, true, true, true, true, true, true, true] rfl rfl (any_of HT_.out (by kernel_rfl)) (fun _ _ _ h => h) (Or.inl ⟨by rfl, ?_⟩) ?_ ?_
                        rotate_left
                        · intro w'
                          go_simp
                          with_reducible rfl
                        rotate_left
                        · simp only [Act.put, List.setIfInBounds_toArray, List.set_cons_zero, List.set_cons_succ, i64_w, i32_w]
                          rfl
                        refine done_ (done_of HT_.out (by kernel_rfl)) ?_
                        try go_wp2
                        go_ret
                        exact ⟨by first | rfl | (simp [errW_none, errW_some] <;> rfl) | (simp [*, errW_none, errW_some] <;> rfl), by repeat (first | (with_reducible first | exact HB.out | apply below_alloc | apply pw_below_drewN | apply below_drew1 | refine below_set ?_ (IsS54.ge HI160.out) | refine below_set ?_ GE157.out | refine below_set ?_ GE165.out | refine below_set ?_ GE170.out | refine below_set ?_ GE185.out) | exact HB.out)⟩
                      · rw [if_neg c45] at H
                        have c45b0 : (t186 != t187) = false := by simpa using c45
                        (try (have c45b1 : decide (t186 = t187) = true := by simpa using c45))
                        (try (have c45b2 : (t186 == t187) = true := by simpa using c45))
                        clear c45
                        have H' := Aside0.mk H
                        clear H
                        have p184 : 0 ≤ (x47_2 : Int) := of_decide_eq_true (by first | (with_reducible assumption) | assumption)
                        have q184 : x47_2 < (y181.length : Int) := of_decide_eq_true (by first | (with_reducible assumption) | assumption)
                        obtain ⟨ad184, e184, hx184_0, hx184_1⟩ := at_T29 (Kd.R_reads' HO_45.out).2.2 x47_2 p184 q184
                        cases e184
                        replace p184 := eq_true p184
                        replace q184 := eq_true q184
                        try go_wp2_with (first | ((with_reducible refine gate_dst (N := 14) rfl ?_); refine box_event ?hg (N := 14) ?hd (cs := #[.int .i64 0, .int .i64 0]) (t := 29) ?hr ?_; (case hd => rfl); (case hg => rfl); (case hr => first | (go_simp; done) | (go_simp; rfl)); intro gb185 hg w56 hbox hb; have n0_ := Aside0.mk (Kd.R_below (by (with_reducible repeat (first | apply Kd.R_alloc | apply Kd.R_drewN | apply Kd.R_drew)); exact HO_21.out) hb); have n1_ := Aside0.mk (Kd.R_below (Kd.R_elderB (by (with_reducible repeat (first | apply Kd.R_alloc | apply Kd.R_drewN | apply Kd.R_drew)); exact HO_45.out) gb185 (Nat.le_of_eq hg.symm)) hb); have n2_ := Aside0.mk (blk_below (g := gb157) (o := .cells #[.int .i64 a0_0, .int .i64 a0_1, .int .i64 a0_2] 23 (0, 0)) (by (with_reducible repeat (first | refine blk_drewN ?_ _ | refine blk_drew ?_ | refine blk_alloc ?_ _)); exact BK157.out) hb); have n3_ := Aside0.mk (blk_below (g := gb165) (o := .cells #[.int .i64 t161, .int .i64 t162, .int .i64 t163] 23 (0, 0)) (by (with_reducible repeat (first | refine blk_drewN ?_ _ | refine blk_drew ?_ | refine blk_alloc ?_ _)); exact BK165.out) hb); have n4_ := Aside0.mk (blk_below (g := gb170) (o := .cells #[.int .i64 ((rd_T23 y166 x23_1).f0), .int .i64 ((rd_T23 y166 x23_1).f1), .int .i64 ((rd_T23 y166 x23_1).f2)] 23 (0, 0)) (by (with_reducible repeat (first | refine blk_drewN ?_ _ | refine blk_drew ?_ | refine blk_alloc ?_ _)); exact BK170.out) hb); have n5_ := Aside0.mk (IsS54.below (by repeat (first | (with_reducible first | exact HI160.out | apply IsS54.alloc | apply IsS54.drewN | apply IsS54.drew | apply IsS54.set_1 | refine IsS54.far ?_ NB160_157.out _ | refine IsS54.far ?_ NB160_165.out _ | refine IsS54.far ?_ NB160_170.out _) | exact HI160.out)) hb); have n6_ := Aside0.mk (below_step (by repeat (first | (with_reducible first | exact HB.out | apply below_alloc | apply pw_below_drewN | apply below_drew1 | refine below_set ?_ (IsS54.ge HI160.out) | refine below_set ?_ GE157.out | refine below_set ?_ GE165.out | refine below_set ?_ GE170.out) | exact HB.out)) hb); have n7_ := Aside0.mk (hbox); have n8_ := Aside0.mk ((by rw [hg]; exact (below_size (by repeat (first | (with_reducible first | exact HB.out | apply below_alloc | apply pw_below_drewN | apply below_drew1 | refine below_set ?_ (IsS54.ge HI160.out) | refine below_set ?_ GE157.out | refine below_set ?_ GE165.out | refine below_set ?_ GE170.out) | exact HB.out))) : w.heap.size ≤ gb185)); have n9_ := Aside0.mk ((by rw [hg]; exact (below_size (by repeat (first | (with_reducible first | exact HB.out | apply below_alloc | apply pw_below_drewN | apply below_drew1 | refine below_set ?_ (IsS54.ge HI160.out) | refine below_set ?_ GE157.out | refine below_set ?_ GE165.out | refine below_set ?_ GE170.out) | exact HB.out))) : w.heap.size ≤ gb185)); have n10_ := Aside0.mk ((by rw [hg]; exact Nat.ne_of_lt (blk_lt (g := gb157) (o := .cells #[.int .i64 a0_0, .int .i64 a0_1, .int .i64 a0_2] 23 (0, 0)) (by (with_reducible repeat (first | refine blk_drewN ?_ _ | refine blk_drew ?_ | refine blk_alloc ?_ _)); exact BK157.out)) : gb157 ≠ gb185)); have n11_ := Aside0.mk ((by rw [hg]; exact Nat.ne_of_gt (blk_lt (g := gb157) (o := .cells #[.int .i64 a0_0, .int .i64 a0_1, .int .i64 a0_2] 23 (0, 0)) (by (with_reducible repeat (first | refine blk_drewN ?_ _ | refine blk_drew ?_ | refine blk_alloc ?_ _)); exact BK157.out)) : gb185 ≠ gb157)); have n12_ := Aside0.mk ((by rw [hg]; exact Nat.ne_of_lt (blk_lt (g := gb165) (o := .cells #[.int .i64 t161, .int .i64 t162, .int .i64 t163] 23 (0, 0)) (by (with_reducible repeat (first | refine blk_drewN ?_ _ | refine blk_drew ?_ | refine blk_alloc ?_ _)); exact BK165.out)) : gb165 ≠ gb185)); have n13_ := Aside0.mk ((by rw [hg]; exact Nat.ne_of_gt (blk_lt (g := gb165) (o := .cells #[.int .i64 t161, .int .i64 t162, .int .i64 t163] 23 (0, 0)) (by (with_reducible repeat (first | refine blk_drewN ?_ _ | refine blk_drew ?_ | refine blk_alloc ?_ _)); exact BK165.out)) : gb185 ≠ gb165)); have n14_ := Aside0.mk ((by rw [hg]; exact Nat.ne_of_lt (blk_lt (g := gb170) (o := .cells #[.int .i64 ((rd_T23 y166 x23_1).f0), .int .i64 ((rd_T23 y166 x23_1).f1), .int .i64 ((rd_T23 y166 x23_1).f2)] 23 (0, 0)) (by (with_reducible repeat (first | refine blk_drewN ?_ _ | refine blk_drew ?_ | refine blk_alloc ?_ _)); exact BK170.out)) : gb170 ≠ gb185)); have n15_ := Aside0.mk ((by rw [hg]; exact Nat.ne_of_gt (blk_lt (g := gb170) (o := .cells #[.int .i64 ((rd_T23 y166 x23_1).f0), .int .i64 ((rd_T23 y166 x23_1).f1), .int .i64 ((rd_T23 y166 x23_1).f2)] 23 (0, 0)) (by (with_reducible repeat (first | refine blk_drewN ?_ _ | refine blk_drew ?_ | refine blk_alloc ?_ _)); exact BK170.out)) : gb185 ≠ gb170)); have n16_ := Aside0.mk ((by rw [hg]; exact Nat.ne_of_lt (IsS54.lt (show IsS54 w _ g160 t158 t180 from by repeat (first | (with_reducible first | exact HI160.out | apply IsS54.alloc | apply IsS54.drewN | apply IsS54.drew | apply IsS54.set_1 | refine IsS54.far ?_ NB160_157.out _ | refine IsS54.far ?_ NB160_165.out _ | refine IsS54.far ?_ NB160_170.out _) | exact HI160.out))) : g160 ≠ gb185)); have n17_ := Aside0.mk ((by rw [hg]; exact Nat.ne_of_gt (IsS54.lt (show IsS54 w _ g160 t158 t180 from by repeat (first | (with_reducible first | exact HI160.out | apply IsS54.alloc | apply IsS54.drewN | apply IsS54.drew | apply IsS54.set_1 | refine IsS54.far ?_ NB160_157.out _ | refine IsS54.far ?_ NB160_165.out _ | refine IsS54.far ?_ NB160_170.out _) | exact HI160.out))) : gb185 ≠ g160)); clear HO_21; clear HO_45; clear BK157; clear BK165; clear BK170; clear HI160; clear HB; have HO_21 := n0_; have HO_45 := n1_; have BK157 := n2_; have BK165 := n3_; have BK170 := n4_; have HI160 := n5_; have HB := n6_; have BK185 := n7_; have GW185 := n8_; have GE185 := n9_; have NB157_185 := n10_; have NB185_157 := n11_; have NB165_185 := n12_; have NB185_165 := n13_; have NB170_185 := n14_; have NB185_170 := n15_; have NB160_185 := n16_; have NB185_160 := n17_; clear n0_ n1_ n2_ n3_ n4_ n5_ n6_ n7_ n8_ n9_ n10_ n11_ n12_ n13_ n14_ n15_ n16_ n17_; clear hb hbox hg; have hnb57 := NB185_157.out; have hnc57 := NB157_185.out; have hnb58 := NB185_165.out; have hnc58 := NB165_185.out; have hnb59 := NB185_170.out; have hnc59 := NB170_185.out; have hnb60 := NB185_160.out; have hnc60 := NB160_185.out; have hcz61_0 : w56.cell? ⟨gb185, 0, none⟩ = some (.int .i64 0) := (blk_cell BK185.out 0).trans rfl; have hcz61_1 : w56.cell? ⟨gb185, 1, none⟩ = some (.int .i64 0) := (blk_cell BK185.out 1).trans rfl; have hfz61_0 := blk_frozen BK185.out 0; have hfz61_1 := blk_frozen BK185.out 1))
                        have n0_ : Aside0 (Kd.R k23 23 ((w56.setCell ⟨gb185, 0, none⟩ (.int .i64 ((rd_T29 y181 x47_2).f0))).setCell ⟨gb185, 1, none⟩ (.int .i64 ((rd_T29 y181 x47_2).f1))) w.heap.size (fun k_ => k_ ≠ gb157 ∧ k_ ≠ gb165 ∧ k_ ≠ gb170) (.slice (some ad169) y166.length co18) y166) := ⟨by (with_reducible repeat (first | apply Kd.R_alloc | apply Kd.R_drewN | apply Kd.R_drew)); exact Kd.R_mono (Kd.R_far (p := ⟨gb185, 1, none⟩) (Kd.R_far (p := ⟨gb185, 0, none⟩) (Kd.R_types HO_21.out BK185.out (by decide)) (fun _ hk => hk.2) (.int .i64 ((rd_T29 y181 x47_2).f0))) (fun _ hk => hk.2) (.int .i64 ((rd_T29 y181 x47_2).f1))) (fun _ hk => ⟨hk.1.1, ⟨hk.1.2.1, hk.1.2.2⟩⟩)⟩
                        have n1_ : Aside0 (Kd.R k29 29 ((w56.setCell ⟨gb185, 0, none⟩ (.int .i64 ((rd_T29 y181 x47_2).f0))).setCell ⟨gb185, 1, none⟩ (.int .i64 ((rd_T29 y181 x47_2).f1))) w.heap.size (fun k_ => k_ ≠ gb185) (.slice (some ad184) y181.length co39) y181) := ⟨by (with_reducible repeat (first | apply Kd.R_alloc | apply Kd.R_drewN | apply Kd.R_drew)); exact Kd.R_mono (Kd.R_far (p := ⟨gb185, 1, none⟩) (Kd.R_far (p := ⟨gb185, 0, none⟩) (Kd.R_mono HO_45.out (fun k_ hk => (⟨hk, hk.2⟩ : _ ∧ k_ ≠ gb185))) (fun _ hk => hk.2) (.int .i64 ((rd_T29 y181 x47_2).f0))) (fun _ hk => hk.2) (.int .i64 ((rd_T29 y181 x47_2).f1))) (fun _ hk => hk.1.2)⟩
                        have n2_ : Aside0 (((w56.setCell ⟨gb185, 0, none⟩ (.int .i64 ((rd_T29 y181 x47_2).f0))).setCell ⟨gb185, 1, none⟩ (.int .i64 ((rd_T29 y181 x47_2).f1))).heap[gb157]? = some (.cells #[.int .i64 a0_0, .int .i64 a0_1, .int .i64 a0_2] 23 (0, 0))) := ⟨by (with_reducible repeat (first | refine blk_drewN ?_ _ | refine blk_drew ?_ | refine blk_alloc ?_ _)); refine blk_far ?_ NB157_185.out _; (with_reducible repeat (first | refine blk_drewN ?_ _ | refine blk_drew ?_ | refine blk_alloc ?_ _)); refine blk_far ?_ NB157_185.out _; (with_reducible repeat (first | refine blk_drewN ?_ _ | refine blk_drew ?_ | refine blk_alloc ?_ _)); exact BK157.out⟩
                        have n3_ : Aside0 (((w56.setCell ⟨gb185, 0, none⟩ (.int .i64 ((rd_T29 y181 x47_2).f0))).setCell ⟨gb185, 1, none⟩ (.int .i64 ((rd_T29 y181 x47_2).f1))).heap[gb165]? = some (.cells #[.int .i64 t161, .int .i64 t162, .int .i64 t163] 23 (0, 0))) := ⟨by (with_reducible repeat (first | refine blk_drewN ?_ _ | refine blk_drew ?_ | refine blk_alloc ?_ _)); refine blk_far ?_ NB165_185.out _; (with_reducible repeat (first | refine blk_drewN ?_ _ | refine blk_drew ?_ | refine blk_alloc ?_ _)); refine blk_far ?_ NB165_185.out _; (with_reducible repeat (first | refine blk_drewN ?_ _ | refine blk_drew ?_ | refine blk_alloc ?_ _)); exact BK165.out⟩
                        have n4_ : Aside0 (((w56.setCell ⟨gb185, 0, none⟩ (.int .i64 ((rd_T29 y181 x47_2).f0))).setCell ⟨gb185, 1, none⟩ (.int .i64 ((rd_T29 y181 x47_2).f1))).heap[gb170]? = some (.cells #[.int .i64 ((rd_T23 y166 x23_1).f0), .int .i64 ((rd_T23 y166 x23_1).f1), .int .i64 ((rd_T23 y166 x23_1).f2)] 23 (0, 0))) := ⟨by (with_reducible repeat (first | refine blk_drewN ?_ _ | refine blk_drew ?_ | refine blk_alloc ?_ _)); refine blk_far ?_ NB170_185.out _; (with_reducible repeat (first | refine blk_drewN ?_ _ | refine blk_drew ?_ | refine blk_alloc ?_ _)); refine blk_far ?_ NB170_185.out _; (with_reducible repeat (first | refine blk_drewN ?_ _ | refine blk_drew ?_ | refine blk_alloc ?_ _)); exact BK170.out⟩
                        have n5_ : Aside0 (((w56.setCell ⟨gb185, 0, none⟩ (.int .i64 ((rd_T29 y181 x47_2).f0))).setCell ⟨gb185, 1, none⟩ (.int .i64 ((rd_T29 y181 x47_2).f1))).heap[gb185]? = some (.cells #[.int .i64 ((rd_T29 y181 x47_2).f0), .int .i64 ((rd_T29 y181 x47_2).f1)] 29 (0, 0))) := ⟨by (with_reducible repeat (first | refine blk_drewN ?_ _ | refine blk_drew ?_ | refine blk_alloc ?_ _)); refine blk_put (cs := #[.int .i64 ((rd_T29 y181 x47_2).f0), .int .i64 0]) ?_ 1 _ rfl; (with_reducible repeat (first | refine blk_drewN ?_ _ | refine blk_drew ?_ | refine blk_alloc ?_ _)); refine blk_put (cs := #[.int .i64 0, .int .i64 0]) ?_ 0 _ rfl; (with_reducible repeat (first | refine blk_drewN ?_ _ | refine blk_drew ?_ | refine blk_alloc ?_ _)); exact BK185.out⟩
                        have n6_ : Aside0 (IsS54 w ((w56.setCell ⟨gb185, 0, none⟩ (.int .i64 ((rd_T29 y181 x47_2).f0))).setCell ⟨gb185, 1, none⟩ (.int .i64 ((rd_T29 y181 x47_2).f1))) g160 t158 t180) := ⟨by repeat (first | (with_reducible first | exact HI160.out | apply IsS54.alloc | apply IsS54.drewN | apply IsS54.drew | apply IsS54.set_1 | refine IsS54.far ?_ NB160_157.out _ | refine IsS54.far ?_ NB160_165.out _ | refine IsS54.far ?_ NB160_170.out _ | refine IsS54.far ?_ NB160_185.out _) | exact HI160.out)⟩
                        have n7_ : Aside0 (Below w.heap.size w ((w56.setCell ⟨gb185, 0, none⟩ (.int .i64 ((rd_T29 y181 x47_2).f0))).setCell ⟨gb185, 1, none⟩ (.int .i64 ((rd_T29 y181 x47_2).f1)))) := ⟨by repeat (first | (with_reducible first | exact HB.out | apply below_alloc | apply pw_below_drewN | apply below_drew1 | refine below_set ?_ (IsS54.ge HI160.out) | refine below_set ?_ GE157.out | refine below_set ?_ GE165.out | refine below_set ?_ GE170.out | refine below_set ?_ GE185.out) | exact HB.out)⟩
                        (try clear HO_21)
                        (try clear HO_45)
                        (try clear BK157)
                        (try clear BK165)
                        (try clear BK170)
                        (try clear BK185)
                        (try clear HI160)
                        (try clear HB)
                        generalize ((w56.setCell ⟨gb185, 0, none⟩ (.int .i64 ((rd_T29 y181 x47_2).f0))).setCell ⟨gb185, 1, none⟩ (.int .i64 ((rd_T29 y181 x47_2).f1))) = w62 at n0_ n1_ n2_ n3_ n4_ n5_ n6_ n7_ ⊢
                        have HO_21 := n0_
                        have HO_45 := n1_
                        have BK157 := n2_
                        have BK165 := n3_
                        have BK170 := n4_
                        have BK185 := n5_
                        have HI160 := n6_
                        have HB := n7_
                        clear n0_ n1_ n2_ n3_ n4_ n5_ n6_ n7_
                        have n0_ := Aside0.mk (Kd.R_drew HO_21.out)
                        have n1_ := Aside0.mk (Kd.R_drew HO_45.out)
                        have n2_ := Aside0.mk (blk_drew BK157.out)
                        have n3_ := Aside0.mk (blk_drew BK165.out)
                        have n4_ := Aside0.mk (blk_drew BK170.out)
                        have n5_ := Aside0.mk (blk_drew BK185.out)
                        have n6_ := Aside0.mk (IsS54.drew HI160.out)
                        have n7_ := Aside0.mk (below_drew1 HB.out)
                        clear HO_21
                        clear HO_45
                        clear BK157
                        clear BK165
                        clear BK170
                        clear BK185
                        clear HI160
                        clear HB
                        have HO_21 := n0_
                        have HO_45 := n1_
                        have BK157 := n2_
                        have BK165 := n3_
                        have BK170 := n4_
                        have BK185 := n5_
                        have HI160 := n6_
                        have HB := n7_
                        clear n0_ n1_ n2_ n3_ n4_ n5_ n6_ n7_
                        refine start_ (n := 13) (S := fun w' => w'.cell? ⟨gb170, 0, none⟩ = some (.int .i64 ((rd_T23 y166 x23_1).f0)) ∧ w'.cell? ⟨gb170, 1, none⟩ = some (.int .i64 ((rd_T23 y166 x23_1).f1)) ∧ w'.cell? ⟨gb170, 2, none⟩ = some (.int .i64 ((rd_T23 y166 x23_1).f2)) ∧ w'.cell? ⟨gb185, 0, none⟩ = some (.int .i64 ((rd_T29 y181 x47_2).f0)) ∧ w'.cell? ⟨gb185, 1, none⟩ = some (.int .i64 ((rd_T29 y181 x47_2).f1))) (ds := []) #[false, false, false, false, false, false, false, false, false, false, false, false, false] (by kernel_rfl) rfl rfl ⟨(blk_cell BK170.out 0).trans rfl, (blk_cell BK170.out 1).trans rfl, (blk_cell BK170.out 2).trans rfl, (blk_cell BK185.out 0).trans rfl, (blk_cell BK185.out 1).trans rfl⟩ (fun hHeld => ?_); refine with_tabW kauditlaw26_RotateDue.tab9 kauditlaw26_RotateDue.bits9 (fun HT_ HW_ => ?_)
                        generalize w62.drew = w63 at HO_21 HO_45 BK157 BK165 BK170 BK185 HI160 HB hHeld ⊢
                        refine pure_ (i := 1) (N := some 52) (v := ?_) (a' := ?_) #[false, true, false, false, false, false, false, false, false, false, false, false, false] rfl rfl (any_of HT_.out (by kernel_rfl)) (fun _ _ _ h => h) (Or.inl ⟨by rfl, ?_⟩) ?_ ?_
                        rotate_left
                        · intro w'
                          go_simp
                          with_reducible rfl
                        rotate_left
                        · simp only [Act.put, List.setIfInBounds_toArray, List.set_cons_zero, List.set_cons_succ, i64_w, i32_w]
                          rfl
                        refine pure_ (i := 3) (N := some 54) (v := ?_) (a' := ?_) #[false, true, false, true, false, false, false, false, false, false, false, false, false] rfl rfl (any_of HT_.out (by kernel_rfl)) (fun _ _ _ h => h) (Or.inl ⟨by rfl, ?_⟩) ?_ ?_
                        rotate_left
                        · intro w'
                          go_simp
                          with_reducible rfl
                        rotate_left
                        · simp only [Act.put, List.setIfInBounds_toArray, List.set_cons_zero, List.set_cons_succ, i64_w, i32_w]
                          rfl
                        refine pure_ (i := 7) (N := some 58) (v := ?_) (a' := ?_) #[false, true, false, true, false, false, false, true, false, false, false, false, false] rfl rfl (any_of HT_.out (by kernel_rfl)) (fun _ _ _ h => h) (Or.inl ⟨by rfl, ?_⟩) ?_ ?_
                        rotate_left
                        · intro w'
                          go_simp
                          with_reducible rfl
                        rotate_left
                        · simp only [Act.put, List.setIfInBounds_toArray, List.set_cons_zero, List.set_cons_succ, i64_w, i32_w]
                          rfl
                        refine pure_ (i := 9) (N := some 60) (v := ?_) (a' := ?_) #[false, true, false, true, false, false, false, true, false, true, false, false, false] rfl rfl (any_of HT_.out (by kernel_rfl)) (fun _ _ _ h => h) (Or.inl ⟨by rfl, ?_⟩) ?_ ?_
                        rotate_left
                        · intro w'
                          go_simp
                          with_reducible rfl
                        rotate_left
                        · simp only [Act.put, List.setIfInBounds_toArray, List.set_cons_zero, List.set_cons_succ, i64_w, i32_w]
                          rfl
                        refine take_ (i := 0) (N := some 51) (v := ?_) (a' := ?_) #[true, true, false, true, false, false, false, true, false, true, false, false, false] rfl rfl (take_ofW HT_.out HW_.out (by kernel_rfl)) (fun _ _ _ h => h) (Or.inl ⟨by rfl, ?_⟩) hHeld ?_ ?_
                        rotate_left
                        · rintro w' ⟨s0, s1, s2, s3, s4⟩
                          go_simp
                          with_reducible rfl
                        rotate_left
                        · simp only [Act.put, List.setIfInBounds_toArray, List.set_cons_zero, List.set_cons_succ, i64_w, i32_w]
                          rfl
                        refine take_ (i := 2) (N := some 53) (v := ?_) (a' := ?_) #[true, true, true, true, false, false, false, true, false, true, false, false, false] rfl rfl (take_ofW HT_.out HW_.out (by kernel_rfl)) (fun _ _ _ h => h) (Or.inl ⟨by rfl, ?_⟩) hHeld ?_ ?_
                        rotate_left
                        · rintro w' ⟨s0, s1, s2, s3, s4⟩
                          go_simp
                          with_reducible rfl
                        rotate_left
                        · simp only [Act.put, List.setIfInBounds_toArray, List.set_cons_zero, List.set_cons_succ, i64_w, i32_w]
                          rfl
                        refine take_ (i := 4) (N := some 55) (v := ?_) (a' := ?_) #[true, true, true, true, true, false, false, true, false, true, false, false, false] rfl rfl (take_ofW HT_.out HW_.out (by kernel_rfl)) (fun _ _ _ h => h) (Or.inl ⟨by rfl, ?_⟩) hHeld ?_ ?_
                        rotate_left
                        · rintro w' ⟨s0, s1, s2, s3, s4⟩
                          go_simp
                          with_reducible rfl
                        rotate_left
                        · simp only [Act.put, List.setIfInBounds_toArray, List.set_cons_zero, List.set_cons_succ, i64_w, i32_w]
                          rfl
                        refine take_ (i := 6) (N := some 57) (v := ?_) (a' := ?_) #[true, true, true, true, true, false, true, true, false, true, false, false, false] rfl rfl (take_ofW HT_.out HW_.out (by kernel_rfl)) (fun _ _ _ h => h) (Or.inl ⟨by rfl, ?_⟩) hHeld ?_ ?_
                        rotate_left
                        · rintro w' ⟨s0, s1, s2, s3, s4⟩
                          go_simp
                          with_reducible rfl
                        rotate_left
                        · simp only [Act.put, List.setIfInBounds_toArray, List.set_cons_zero, List.set_cons_succ, i64_w, i32_w]
                          rfl
                        refine take_ (i := 8) (N := some 59) (v := ?_) (a' := ?_) #[true, true, true, true, true, false, true, true, true, true, false, false, false] rfl rfl (take_ofW HT_.out HW_.out (by kernel_rfl)) (fun _ _ _ h => h) (Or.inl ⟨by rfl, ?_⟩) hHeld ?_ ?_
                        rotate_left
                        · rintro w' ⟨s0, s1, s2, s3, s4⟩
                          go_simp
                          with_reducible rfl
                        rotate_left
                        · simp only [Act.put, List.setIfInBounds_toArray, List.set_cons_zero, List.set_cons_succ, i64_w, i32_w]
                          rfl
                        refine take_ (i := 10) (N := some 61) (v := ?_) (a' := ?_) #[true, true, true, true, true, false, true, true, true, true, true, false, false] rfl rfl (take_ofW HT_.out HW_.out (by kernel_rfl)) (fun _ _ _ h => h) (Or.inl ⟨by rfl, ?_⟩) hHeld ?_ ?_
                        rotate_left
                        · rintro w' ⟨s0, s1, s2, s3, s4⟩
                          go_simp
                          with_reducible rfl
                        rotate_left
                        · simp only [Act.put, List.setIfInBounds_toArray, List.set_cons_zero, List.set_cons_succ, i64_w, i32_w]
                          rfl
                        refine one_ (i := 5) (N := some 56) #[true, true, true, true, true, true, true, true, true, true, true, false, false] rfl rfl (one_of HT_.out (by kernel_rfl)) (by decide) (fun K hK => ?_)
                        refine goes_ Tryd.func12 (by kernel_rfl) rfl #[.agg #[.int .i64 ((rd_T23 y166 x23_1).f0), .int .i64 ((rd_T23 y166 x23_1).f1), .int .i64 ((rd_T23 y166 x23_1).f2)], .int .i64 ((rd_T29 y181 x47_2).f0), .int .i64 ((rd_T29 y181 x47_2).f1)] (by rfl) rfl rfl (by (try simp only [List.map_toArray, List.map_cons, List.map_nil]); first | done | rfl | (simp only [List.length_drop, List.length_take]; rfl)) ?_
                        with_reducible refine (rotate_Due.calls ((rd_T23 y166 x23_1).f0) ((rd_T23 y166 x23_1).f1) ((rd_T23 y166 x23_1).f2) ((rd_T29 y181 x47_2).f0) ((rd_T29 y181 x47_2).f1) t186 _ A43.out).mono ?_
                        rintro e w64 ⟨rfl, hb⟩
                        refine ⟨_, rfl, ?_⟩
                        have n0_ := Aside0.mk (Kd.R_below (by (with_reducible repeat (first | apply Kd.R_alloc | apply Kd.R_drewN | apply Kd.R_drew)); exact HO_21.out) hb)
                        have n1_ := Aside0.mk (Kd.R_below (by (with_reducible repeat (first | apply Kd.R_alloc | apply Kd.R_drewN | apply Kd.R_drew)); exact HO_45.out) hb)
                        have n2_ := Aside0.mk (blk_below (g := gb157) (o := .cells #[.int .i64 a0_0, .int .i64 a0_1, .int .i64 a0_2] 23 (0, 0)) (by (with_reducible repeat (first | refine blk_drewN ?_ _ | refine blk_drew ?_ | refine blk_alloc ?_ _)); exact BK157.out) hb)
                        have n3_ := Aside0.mk (blk_below (g := gb165) (o := .cells #[.int .i64 t161, .int .i64 t162, .int .i64 t163] 23 (0, 0)) (by (with_reducible repeat (first | refine blk_drewN ?_ _ | refine blk_drew ?_ | refine blk_alloc ?_ _)); exact BK165.out) hb)
                        have n4_ := Aside0.mk (blk_below (g := gb170) (o := .cells #[.int .i64 ((rd_T23 y166 x23_1).f0), .int .i64 ((rd_T23 y166 x23_1).f1), .int .i64 ((rd_T23 y166 x23_1).f2)] 23 (0, 0)) (by (with_reducible repeat (first | refine blk_drewN ?_ _ | refine blk_drew ?_ | refine blk_alloc ?_ _)); exact BK170.out) hb)
                        have n5_ := Aside0.mk (IsS54.below (by repeat (first | (with_reducible first | exact HI160.out | apply IsS54.alloc | apply IsS54.drewN | apply IsS54.drew | apply IsS54.set_1 | refine IsS54.far ?_ NB160_157.out _ | refine IsS54.far ?_ NB160_165.out _ | refine IsS54.far ?_ NB160_170.out _ | refine IsS54.far ?_ NB160_185.out _) | exact HI160.out)) hb)
                        have n6_ := Aside0.mk (blk_below (g := gb185) (o := .cells #[.int .i64 ((rd_T29 y181 x47_2).f0), .int .i64 ((rd_T29 y181 x47_2).f1)] 29 (0, 0)) (by (with_reducible repeat (first | refine blk_drewN ?_ _ | refine blk_drew ?_ | refine blk_alloc ?_ _)); exact BK185.out) hb)
                        have n7_ := Aside0.mk (below_step (by repeat (first | (with_reducible first | exact HB.out | apply below_alloc | apply pw_below_drewN | apply below_drew1 | refine below_set ?_ (IsS54.ge HI160.out) | refine below_set ?_ GE157.out | refine below_set ?_ GE165.out | refine below_set ?_ GE170.out | refine below_set ?_ GE185.out) | exact HB.out)) hb)
                        clear HO_21
                        clear HO_45
                        clear BK157
                        clear BK165
                        clear BK170
                        clear HI160
                        clear BK185
                        clear HB
                        have HO_21 := n0_
                        have HO_45 := n1_
                        have BK157 := n2_
                        have BK165 := n3_
                        have BK170 := n4_
                        have HI160 := n5_
                        have BK185 := n6_
                        have HB := n7_
                        clear n0_ n1_ n2_ n3_ n4_ n5_ n6_ n7_
                        (try clear hb)
                        (try clear hb2)
                        (try clear hk)
                        (try clear hi)
                        refine hK.out _ _ ⟨(blk_cell BK170.out 0).trans rfl, (blk_cell BK170.out 1).trans rfl, (blk_cell BK170.out 2).trans rfl, (blk_cell BK185.out 0).trans rfl, (blk_cell BK185.out 1).trans rfl⟩ (fun hHeld => ?_)
                        clear hK K
                        refine norm_ (a' := ?_) ?_ ?_
                        rotate_left
                        · show Act.put _ (some 56) _ = _
                          simp only [Act.put, List.setIfInBounds_toArray, List.set_cons_zero, List.set_cons_succ, i64_w, i32_w]
                          rfl
                        refine one_ (i := 11) (N := some 62) #[true, true, true, true, true, true, true, true, true, true, true, true, false] rfl rfl (one_of HT_.out (by kernel_rfl)) (by decide) (fun K hK => ?_)
                        refine goes_ Tryd.func13 (by kernel_rfl) rfl #[.agg #[.int .i64 ((rd_T23 y166 x23_1).f0), .int .i64 ((rd_T23 y166 x23_1).f1), .int .i64 ((rd_T23 y166 x23_1).f2)], .int .i64 ((rd_T29 y181 x47_2).f0), .int .i64 ((rd_T29 y181 x47_2).f1)] (by rfl) rfl rfl (by (try simp only [List.map_toArray, List.map_cons, List.map_nil]); first | done | rfl | (simp only [List.length_drop, List.length_take]; rfl)) ?_
                        with_reducible refine (kauditref26_Due.calls k2 ((rd_T23 y166 x23_1).f0) ((rd_T23 y166 x23_1).f1) ((rd_T23 y166 x23_1).f2) ((rd_T29 y181 x47_2).f0) ((rd_T29 y181 x47_2).f1) t187 _ A44.out).mono ?_
                        rintro e w65 ⟨rfl, hb⟩
                        refine ⟨_, rfl, ?_⟩
                        have n0_ := Aside0.mk (Kd.R_below (by (with_reducible repeat (first | apply Kd.R_alloc | apply Kd.R_drewN | apply Kd.R_drew)); exact HO_21.out) hb)
                        have n1_ := Aside0.mk (Kd.R_below (by (with_reducible repeat (first | apply Kd.R_alloc | apply Kd.R_drewN | apply Kd.R_drew)); exact HO_45.out) hb)
                        have n2_ := Aside0.mk (blk_below (g := gb157) (o := .cells #[.int .i64 a0_0, .int .i64 a0_1, .int .i64 a0_2] 23 (0, 0)) (by (with_reducible repeat (first | refine blk_drewN ?_ _ | refine blk_drew ?_ | refine blk_alloc ?_ _)); exact BK157.out) hb)
                        have n3_ := Aside0.mk (blk_below (g := gb165) (o := .cells #[.int .i64 t161, .int .i64 t162, .int .i64 t163] 23 (0, 0)) (by (with_reducible repeat (first | refine blk_drewN ?_ _ | refine blk_drew ?_ | refine blk_alloc ?_ _)); exact BK165.out) hb)
                        have n4_ := Aside0.mk (blk_below (g := gb170) (o := .cells #[.int .i64 ((rd_T23 y166 x23_1).f0), .int .i64 ((rd_T23 y166 x23_1).f1), .int .i64 ((rd_T23 y166 x23_1).f2)] 23 (0, 0)) (by (with_reducible repeat (first | refine blk_drewN ?_ _ | refine blk_drew ?_ | refine blk_alloc ?_ _)); exact BK170.out) hb)
                        have n5_ := Aside0.mk (IsS54.below (by repeat (first | (with_reducible first | exact HI160.out | apply IsS54.alloc | apply IsS54.drewN | apply IsS54.drew | apply IsS54.set_1 | refine IsS54.far ?_ NB160_157.out _ | refine IsS54.far ?_ NB160_165.out _ | refine IsS54.far ?_ NB160_170.out _ | refine IsS54.far ?_ NB160_185.out _) | exact HI160.out)) hb)
                        have n6_ := Aside0.mk (blk_below (g := gb185) (o := .cells #[.int .i64 ((rd_T29 y181 x47_2).f0), .int .i64 ((rd_T29 y181 x47_2).f1)] 29 (0, 0)) (by (with_reducible repeat (first | refine blk_drewN ?_ _ | refine blk_drew ?_ | refine blk_alloc ?_ _)); exact BK185.out) hb)
                        have n7_ := Aside0.mk (below_step (by repeat (first | (with_reducible first | exact HB.out | apply below_alloc | apply pw_below_drewN | apply below_drew1 | refine below_set ?_ (IsS54.ge HI160.out) | refine below_set ?_ GE157.out | refine below_set ?_ GE165.out | refine below_set ?_ GE170.out | refine below_set ?_ GE185.out) | exact HB.out)) hb)
                        clear HO_21
                        clear HO_45
                        clear BK157
                        clear BK165
                        clear BK170
                        clear HI160
                        clear BK185
                        clear HB
                        have HO_21 := n0_
                        have HO_45 := n1_
                        have BK157 := n2_
                        have BK165 := n3_
                        have BK170 := n4_
                        have HI160 := n5_
                        have BK185 := n6_
                        have HB := n7_
                        clear n0_ n1_ n2_ n3_ n4_ n5_ n6_ n7_
                        (try clear hb)
                        (try clear hb2)
                        (try clear hk)
                        (try clear hi)
                        refine hK.out _ _ ⟨(blk_cell BK170.out 0).trans rfl, (blk_cell BK170.out 1).trans rfl, (blk_cell BK170.out 2).trans rfl, (blk_cell BK185.out 0).trans rfl, (blk_cell BK185.out 1).trans rfl⟩ (fun hHeld => ?_)
                        clear hK K
                        refine norm_ (a' := ?_) ?_ ?_
                        rotate_left
                        · show Act.put _ (some 62) _ = _
                          simp only [Act.put, List.setIfInBounds_toArray, List.set_cons_zero, List.set_cons_succ, i64_w, i32_w]
                          rfl
                        refine pure_ (i := 12) (N := some 63) (v := ?_) (a' := ?_) #[true, true, true, true, true, true, true, true, true, true, true, true, true] rfl rfl (any_of HT_.out (by kernel_rfl)) (fun _ _ _ h => h) (Or.inl ⟨by rfl, ?_⟩) ?_ ?_
                        rotate_left
                        · intro w'
                          go_simp
                          with_reducible rfl
                        rotate_left
                        · simp only [Act.put, List.setIfInBounds_toArray, List.set_cons_zero, List.set_cons_succ, i64_w, i32_w]
                          rfl
                        refine done_ (done_of HT_.out (by kernel_rfl)) ?_
                        try go_wp2
                        go_roundg k2
                        case measure => have := HK1.out; have := HK2.out; omega
                        case rel => exact ⟨(wrap64 (x47_2 + 1)), (by first | rfl | (simp; done) | (simp [*]; done)), H', ⟨by have := HK1.out; have := HK2.out; omega⟩, ⟨by (with_reducible repeat (first | apply Kd.R_alloc | apply Kd.R_drewN | apply Kd.R_drew)); exact HO_21.out⟩, ⟨by (with_reducible repeat (first | apply Kd.R_alloc | apply Kd.R_drewN | apply Kd.R_drew)); exact Kd.R_mono HO_45.out (fun _ hk => trivial)⟩, ⟨by (with_reducible repeat (first | refine blk_drewN ?_ _ | refine blk_drew ?_ | refine blk_alloc ?_ _)); exact BK157.out⟩, ⟨by (with_reducible repeat (first | refine blk_drewN ?_ _ | refine blk_drew ?_ | refine blk_alloc ?_ _)); exact BK165.out⟩, ⟨by (with_reducible repeat (first | refine blk_drewN ?_ _ | refine blk_drew ?_ | refine blk_alloc ?_ _)); exact BK170.out⟩, ⟨by repeat (first | (with_reducible first | exact HI160.out | apply IsS54.alloc | apply IsS54.drewN | apply IsS54.drew | apply IsS54.set_1 | refine IsS54.far ?_ NB160_157.out _ | refine IsS54.far ?_ NB160_165.out _ | refine IsS54.far ?_ NB160_170.out _ | refine IsS54.far ?_ NB160_185.out _) | exact HI160.out)⟩, ⟨by repeat (first | (with_reducible first | exact HB.out | apply below_alloc | apply pw_below_drewN | apply below_drew1 | refine below_set ?_ (IsS54.ge HI160.out) | refine below_set ?_ GE157.out | refine below_set ?_ GE165.out | refine below_set ?_ GE170.out | refine below_set ?_ GE185.out) | exact HB.out)⟩⟩
                    · rw [if_neg c42] at H
                      exact absurd H (by simp)
                  · rw [if_neg c41] at H
                    exact absurd H (by simp)
                · rw [if_neg c40] at H
                  have c40b0 : decide (x47_2 < (y181.length : Int)) = false := decide_eq_false c40
                  clear c40
                  have H' := Aside0.mk H
                  clear H
                  go_wp2
                  go_roundg k2
                  case measure => have := HK1.out; have := HK2.out; omega
                  case rel => exact ⟨(wrap64 (x23_1 + 1)), (t180), (by first | rfl | (simp; done) | (simp [*]; done)), H', ⟨by have := HK1.out; have := HK2.out; omega⟩, ⟨by (with_reducible repeat (first | apply Kd.R_alloc | apply Kd.R_drewN | apply Kd.R_drew)); exact Kd.R_mono HO_21.out (fun _ hk => ⟨hk.1, hk.2.1⟩)⟩, ⟨by (with_reducible repeat (first | refine blk_drewN ?_ _ | refine blk_drew ?_ | refine blk_alloc ?_ _)); exact BK157.out⟩, ⟨by (with_reducible repeat (first | refine blk_drewN ?_ _ | refine blk_drew ?_ | refine blk_alloc ?_ _)); exact BK165.out⟩, ⟨by repeat (first | (with_reducible first | exact HI160.out | apply IsS54.alloc | apply IsS54.drewN | apply IsS54.drew | apply IsS54.set_1 | refine IsS54.far ?_ NB160_157.out _ | refine IsS54.far ?_ NB160_165.out _ | refine IsS54.far ?_ NB160_170.out _) | exact HI160.out)⟩, ⟨by repeat (first | (with_reducible first | exact HB.out | apply below_alloc | apply pw_below_drewN | apply below_drew1 | refine below_set ?_ (IsS54.ge HI160.out) | refine below_set ?_ GE157.out | refine below_set ?_ GE165.out | refine below_set ?_ GE170.out) | exact HB.out)⟩⟩
          · rw [if_neg c21] at H
            exact absurd H (by simp)
        · rw [if_neg c20] at H
          exact absurd H (by simp)
      · rw [if_neg c19] at H
        have c19b0 : decide (x23_1 < (y166.length : Int)) = false := decide_eq_false c19
        clear c19
        replace H := Option.bind_eq_some_iff.mp H
        obtain ⟨t188, A660, H⟩ := H
        replace H : ((kauditref26_RotateValid.f a0_0 a0_1 a0_2).bind fun t189 => (if (t188 == t189) = true then ((rotate_Valid.f t161 t162 t163).bind fun t190 => (if t190 = true then ((kauditlaw26_begun.f k1).bind fun t191 => (some t191)) else (some false))) else (some false))) = some r := H
        have A66 := Aside0.mk A660
        clear A660
        replace H := Option.bind_eq_some_iff.mp H
        obtain ⟨t189, A670, H⟩ := H
        replace H : (if (t188 == t189) = true then ((rotate_Valid.f t161 t162 t163).bind fun t190 => (if t190 = true then ((kauditlaw26_begun.f k1).bind fun t191 => (some t191)) else (some false))) else (some false)) = some r := H
        have A67 := Aside0.mk A670
        clear A670
        by_cases c68 : (t188 == t189) = true
        · rw [if_pos c68] at H
          have c68b0 : (t188 == t189) = true := c68
          (try (have c68b1 : decide (t188 = t189) = true := by simpa using c68))
          (try (have c68b2 : (t188 == t189) = true := by simpa using c68))
          clear c68
          replace H := Option.bind_eq_some_iff.mp H
          obtain ⟨t190, A690, H⟩ := H
          replace H : (if t190 = true then ((kauditlaw26_begun.f k1).bind fun t191 => (some t191)) else (some false)) = some r := H
          have A69 := Aside0.mk A690
          clear A690
          by_cases c70 : t190 = true
          · subst c70
            have H1 : ((kauditlaw26_begun.f k1).bind fun t191 => (some t191)) = some r := by rw [if_pos rfl] at H; exact H
            clear H
            have H := H1
            clear H1
            replace H := Option.bind_eq_some_iff.mp H
            obtain ⟨t191, A710, H⟩ := H
            replace H : (some t191) = some r := H
            have A71 := Aside0.mk A710
            clear A710
            obtain rfl := Option.some.inj H
            try go_wp2
            have n0_ := Aside0.mk (Kd.R_drew HO_21.out)
            have n1_ := Aside0.mk (blk_drew BK157.out)
            have n2_ := Aside0.mk (blk_drew BK165.out)
            have n3_ := Aside0.mk (IsS54.drew HI160.out)
            have n4_ := Aside0.mk (below_drew1 HB.out)
            clear HO_21
            clear BK157
            clear BK165
            clear HI160
            clear HB
            have HO_21 := n0_
            have BK157 := n1_
            have BK165 := n2_
            have HI160 := n3_
            have HB := n4_
            clear n0_ n1_ n2_ n3_ n4_
            refine start_ (n := 13) (S := fun w' => w'.cell? ⟨gb157, 0, none⟩ = some (.int .i64 a0_0) ∧ w'.cell? ⟨gb157, 1, none⟩ = some (.int .i64 a0_1) ∧ w'.cell? ⟨gb157, 2, none⟩ = some (.int .i64 a0_2) ∧ w'.cell? ⟨gb165, 0, none⟩ = some (.int .i64 t161) ∧ w'.cell? ⟨gb165, 1, none⟩ = some (.int .i64 t162) ∧ w'.cell? ⟨gb165, 2, none⟩ = some (.int .i64 t163)) (ds := []) #[false, false, false, false, false, false, false, false, false, false, false, false, false] (by kernel_rfl) rfl rfl ⟨(blk_cell BK157.out 0).trans rfl, (blk_cell BK157.out 1).trans rfl, (blk_cell BK157.out 2).trans rfl, (blk_cell BK165.out 0).trans rfl, (blk_cell BK165.out 1).trans rfl, (blk_cell BK165.out 2).trans rfl⟩ (fun hHeld => ?_); refine with_tabW kauditlaw26_RotateDue.tab13 kauditlaw26_RotateDue.bits13 (fun HT_ HW_ => ?_)
            generalize wr.drew = w72 at HO_21 BK157 BK165 HI160 HB hHeld ⊢
            refine take_ (i := 0) (N := some 66) (v := ?_) (a' := ?_) #[true, false, false, false, false, false, false, false, false, false, false, false, false] rfl rfl (take_ofW HT_.out HW_.out (by kernel_rfl)) (fun _ _ _ h => h) (Or.inl ⟨by rfl, ?_⟩) hHeld ?_ ?_
            rotate_left
            · rintro w' ⟨s0, s1, s2, s3, s4, s5⟩
              go_simp
              with_reducible rfl
            rotate_left
            · simp only [Act.put, List.setIfInBounds_toArray, List.set_cons_zero, List.set_cons_succ, i64_w, i32_w]
              rfl
            refine take_ (i := 2) (N := some 68) (v := ?_) (a' := ?_) #[true, false, true, false, false, false, false, false, false, false, false, false, false] rfl rfl (take_ofW HT_.out HW_.out (by kernel_rfl)) (fun _ _ _ h => h) (Or.inl ⟨by rfl, ?_⟩) hHeld ?_ ?_
            rotate_left
            · rintro w' ⟨s0, s1, s2, s3, s4, s5⟩
              go_simp
              with_reducible rfl
            rotate_left
            · simp only [Act.put, List.setIfInBounds_toArray, List.set_cons_zero, List.set_cons_succ, i64_w, i32_w]
              rfl
            refine one_ (i := 1) (N := some 67) #[true, true, true, false, false, false, false, false, false, false, false, false, false] rfl rfl (one_of HT_.out (by kernel_rfl)) (by decide) (fun K hK => ?_)
            refine goes_ Tryd.func14 (by kernel_rfl) rfl #[.agg #[.int .i64 a0_0, .int .i64 a0_1, .int .i64 a0_2]] (by rfl) rfl rfl (by (try simp only [List.map_toArray, List.map_cons, List.map_nil]); first | done | rfl | (simp only [List.length_drop, List.length_take]; rfl)) ?_
            with_reducible refine (rotate_Valid.calls a0_0 a0_1 a0_2 t188 _ A66.out).mono ?_
            rintro e w73 ⟨rfl, hb⟩
            refine ⟨_, rfl, ?_⟩
            have n0_ := Aside0.mk (Kd.R_below (by (with_reducible repeat (first | apply Kd.R_alloc | apply Kd.R_drewN | apply Kd.R_drew)); exact HO_21.out) hb)
            have n1_ := Aside0.mk (blk_below (g := gb157) (o := .cells #[.int .i64 a0_0, .int .i64 a0_1, .int .i64 a0_2] 23 (0, 0)) (by (with_reducible repeat (first | refine blk_drewN ?_ _ | refine blk_drew ?_ | refine blk_alloc ?_ _)); exact BK157.out) hb)
            have n2_ := Aside0.mk (blk_below (g := gb165) (o := .cells #[.int .i64 t161, .int .i64 t162, .int .i64 t163] 23 (0, 0)) (by (with_reducible repeat (first | refine blk_drewN ?_ _ | refine blk_drew ?_ | refine blk_alloc ?_ _)); exact BK165.out) hb)
            have n3_ := Aside0.mk (IsS54.below (by repeat (first | (with_reducible first | exact HI160.out | apply IsS54.alloc | apply IsS54.drewN | apply IsS54.drew | apply IsS54.set_1 | refine IsS54.far ?_ NB160_157.out _ | refine IsS54.far ?_ NB160_165.out _) | exact HI160.out)) hb)
            have n4_ := Aside0.mk (below_step (by repeat (first | (with_reducible first | exact HB.out | apply below_alloc | apply pw_below_drewN | apply below_drew1 | refine below_set ?_ (IsS54.ge HI160.out) | refine below_set ?_ GE157.out | refine below_set ?_ GE165.out) | exact HB.out)) hb)
            clear HO_21
            clear BK157
            clear BK165
            clear HI160
            clear HB
            have HO_21 := n0_
            have BK157 := n1_
            have BK165 := n2_
            have HI160 := n3_
            have HB := n4_
            clear n0_ n1_ n2_ n3_ n4_
            (try clear hb)
            (try clear hb2)
            (try clear hk)
            (try clear hi)
            refine hK.out _ _ ⟨(blk_cell BK157.out 0).trans rfl, (blk_cell BK157.out 1).trans rfl, (blk_cell BK157.out 2).trans rfl, (blk_cell BK165.out 0).trans rfl, (blk_cell BK165.out 1).trans rfl, (blk_cell BK165.out 2).trans rfl⟩ (fun hHeld => ?_)
            clear hK K
            refine norm_ (a' := ?_) ?_ ?_
            rotate_left
            · show Act.put _ (some 67) _ = _
              simp only [Act.put, List.setIfInBounds_toArray, List.set_cons_zero, List.set_cons_succ, i64_w, i32_w]
              rfl
            refine one_ (i := 3) (N := some 69) #[true, true, true, true, false, false, false, false, false, false, false, false, false] rfl rfl (one_of HT_.out (by kernel_rfl)) (by decide) (fun K hK => ?_)
            refine goes_ Tryd.func15 (by kernel_rfl) rfl #[.agg #[.int .i64 a0_0, .int .i64 a0_1, .int .i64 a0_2]] (by rfl) rfl rfl (by (try simp only [List.map_toArray, List.map_cons, List.map_nil]); first | done | rfl | (simp only [List.length_drop, List.length_take]; rfl)) ?_
            with_reducible refine (kauditref26_RotateValid.calls a0_0 a0_1 a0_2 t189 _ A67.out).mono ?_
            rintro e w74 ⟨rfl, hb⟩
            refine ⟨_, rfl, ?_⟩
            have n0_ := Aside0.mk (Kd.R_below (by (with_reducible repeat (first | apply Kd.R_alloc | apply Kd.R_drewN | apply Kd.R_drew)); exact HO_21.out) hb)
            have n1_ := Aside0.mk (blk_below (g := gb157) (o := .cells #[.int .i64 a0_0, .int .i64 a0_1, .int .i64 a0_2] 23 (0, 0)) (by (with_reducible repeat (first | refine blk_drewN ?_ _ | refine blk_drew ?_ | refine blk_alloc ?_ _)); exact BK157.out) hb)
            have n2_ := Aside0.mk (blk_below (g := gb165) (o := .cells #[.int .i64 t161, .int .i64 t162, .int .i64 t163] 23 (0, 0)) (by (with_reducible repeat (first | refine blk_drewN ?_ _ | refine blk_drew ?_ | refine blk_alloc ?_ _)); exact BK165.out) hb)
            have n3_ := Aside0.mk (IsS54.below (by repeat (first | (with_reducible first | exact HI160.out | apply IsS54.alloc | apply IsS54.drewN | apply IsS54.drew | apply IsS54.set_1 | refine IsS54.far ?_ NB160_157.out _ | refine IsS54.far ?_ NB160_165.out _) | exact HI160.out)) hb)
            have n4_ := Aside0.mk (below_step (by repeat (first | (with_reducible first | exact HB.out | apply below_alloc | apply pw_below_drewN | apply below_drew1 | refine below_set ?_ (IsS54.ge HI160.out) | refine below_set ?_ GE157.out | refine below_set ?_ GE165.out) | exact HB.out)) hb)
            clear HO_21
            clear BK157
            clear BK165
            clear HI160
            clear HB
            have HO_21 := n0_
            have BK157 := n1_
            have BK165 := n2_
            have HI160 := n3_
            have HB := n4_
            clear n0_ n1_ n2_ n3_ n4_
            (try clear hb)
            (try clear hb2)
            (try clear hk)
            (try clear hi)
            refine hK.out _ _ ⟨(blk_cell BK157.out 0).trans rfl, (blk_cell BK157.out 1).trans rfl, (blk_cell BK157.out 2).trans rfl, (blk_cell BK165.out 0).trans rfl, (blk_cell BK165.out 1).trans rfl, (blk_cell BK165.out 2).trans rfl⟩ (fun hHeld => ?_)
            clear hK K
            refine norm_ (a' := ?_) ?_ ?_
            rotate_left
            · show Act.put _ (some 69) _ = _
              simp only [Act.put, List.setIfInBounds_toArray, List.set_cons_zero, List.set_cons_succ, i64_w, i32_w]
              rfl
            refine pure_ (i := 4) (N := some 70) (v := ?_) (a' := ?_) #[true, true, true, true, true, false, false, false, false, false, false, false, false] rfl rfl (any_of HT_.out (by kernel_rfl)) (fun _ _ _ h => h) (Or.inl ⟨by rfl, ?_⟩) ?_ ?_
            rotate_left
            · intro w'
              go_simp
              with_reducible rfl
            rotate_left
            · simp only [Act.put, List.setIfInBounds_toArray, List.set_cons_zero, List.set_cons_succ, i64_w, i32_w]
              rfl
            refine pure_ (i := 5) (N := some 71) (v := ?_) (a' := ?_) #[true, true, true, true, true, true, false, false, false, false, false, false, false] rfl rfl (any_of HT_.out (by kernel_rfl)) (fun _ _ _ h => h) (Or.inl ⟨by rfl, ?_⟩) ?_ ?_
            rotate_left
            · intro w'
              go_simp
              with_reducible rfl
            rotate_left
            · simp only [Act.put, List.setIfInBounds_toArray, List.set_cons_zero, List.set_cons_succ, i64_w, i32_w]
              rfl
            refine take_ (i := 6) (N := some 72) (v := ?_) (a' := ?_) #[true, true, true, true, true, true, true, false, false, false, false, false, false] rfl rfl (take_ofW HT_.out HW_.out (by kernel_rfl)) (fun _ _ _ h => h) (Or.inl ⟨by rfl, ?_⟩) hHeld ?_ ?_
            rotate_left
            · rintro w' ⟨s0, s1, s2, s3, s4, s5⟩
              go_simp
              with_reducible rfl
            rotate_left
            · simp only [Act.put, List.setIfInBounds_toArray, List.set_cons_zero, List.set_cons_succ, i64_w, i32_w]
              rfl
            refine one_ (i := 7) (N := some 73) #[true, true, true, true, true, true, true, true, false, false, false, false, false] rfl rfl (one_of HT_.out (by kernel_rfl)) (by decide) (fun K hK => ?_)
            refine goes_ Tryd.func14 (by kernel_rfl) rfl #[.agg #[.int .i64 t161, .int .i64 t162, .int .i64 t163]] (by rfl) rfl rfl (by (try simp only [List.map_toArray, List.map_cons, List.map_nil]); first | done | rfl | (simp only [List.length_drop, List.length_take]; rfl)) ?_
            with_reducible refine (rotate_Valid.calls t161 t162 t163 true _ A69.out).mono ?_
            rintro e w75 ⟨rfl, hb⟩
            refine ⟨_, rfl, ?_⟩
            have n0_ := Aside0.mk (Kd.R_below (by (with_reducible repeat (first | apply Kd.R_alloc | apply Kd.R_drewN | apply Kd.R_drew)); exact HO_21.out) hb)
            have n1_ := Aside0.mk (blk_below (g := gb157) (o := .cells #[.int .i64 a0_0, .int .i64 a0_1, .int .i64 a0_2] 23 (0, 0)) (by (with_reducible repeat (first | refine blk_drewN ?_ _ | refine blk_drew ?_ | refine blk_alloc ?_ _)); exact BK157.out) hb)
            have n2_ := Aside0.mk (blk_below (g := gb165) (o := .cells #[.int .i64 t161, .int .i64 t162, .int .i64 t163] 23 (0, 0)) (by (with_reducible repeat (first | refine blk_drewN ?_ _ | refine blk_drew ?_ | refine blk_alloc ?_ _)); exact BK165.out) hb)
            have n3_ := Aside0.mk (IsS54.below (by repeat (first | (with_reducible first | exact HI160.out | apply IsS54.alloc | apply IsS54.drewN | apply IsS54.drew | apply IsS54.set_1 | refine IsS54.far ?_ NB160_157.out _ | refine IsS54.far ?_ NB160_165.out _) | exact HI160.out)) hb)
            have n4_ := Aside0.mk (below_step (by repeat (first | (with_reducible first | exact HB.out | apply below_alloc | apply pw_below_drewN | apply below_drew1 | refine below_set ?_ (IsS54.ge HI160.out) | refine below_set ?_ GE157.out | refine below_set ?_ GE165.out) | exact HB.out)) hb)
            clear HO_21
            clear BK157
            clear BK165
            clear HI160
            clear HB
            have HO_21 := n0_
            have BK157 := n1_
            have BK165 := n2_
            have HI160 := n3_
            have HB := n4_
            clear n0_ n1_ n2_ n3_ n4_
            (try clear hb)
            (try clear hb2)
            (try clear hk)
            (try clear hi)
            refine hK.out _ _ ⟨(blk_cell BK157.out 0).trans rfl, (blk_cell BK157.out 1).trans rfl, (blk_cell BK157.out 2).trans rfl, (blk_cell BK165.out 0).trans rfl, (blk_cell BK165.out 1).trans rfl, (blk_cell BK165.out 2).trans rfl⟩ (fun hHeld => ?_)
            clear hK K
            refine norm_ (a' := ?_) ?_ ?_
            rotate_left
            · show Act.put _ (some 73) _ = _
              simp only [Act.put, List.setIfInBounds_toArray, List.set_cons_zero, List.set_cons_succ, i64_w, i32_w]
              rfl
            refine pure_ (i := 8) (N := some 74) (v := ?_) (a' := ?_) #[true, true, true, true, true, true, true, true, true, false, false, false, false] rfl rfl (any_of HT_.out (by kernel_rfl)) (fun _ _ _ h => h) (Or.inl ⟨by rfl, ?_⟩) ?_ ?_
            rotate_left
            · intro w'
              go_simp
              with_reducible rfl
            rotate_left
            · simp only [Act.put, List.setIfInBounds_toArray, List.set_cons_zero, List.set_cons_succ, i64_w, i32_w]
              rfl
            refine pure_ (i := 9) (N := some 75) (v := ?_) (a' := ?_) #[true, true, true, true, true, true, true, true, true, true, false, false, false] rfl rfl (any_of HT_.out (by kernel_rfl)) (fun _ _ _ h => h) (Or.inl ⟨by rfl, ?_⟩) ?_ ?_
            rotate_left
            · intro w'
              go_simp
              with_reducible rfl
            rotate_left
            · simp only [Act.put, List.setIfInBounds_toArray, List.set_cons_zero, List.set_cons_succ, i64_w, i32_w]
              rfl
            refine one_ (i := 10) (N := some 76) #[true, true, true, true, true, true, true, true, true, true, true, false, false] rfl rfl (one_of HT_.out (by kernel_rfl)) (by decide) (fun K hK => ?_)
            refine goes_ Tryd.func16 (by kernel_rfl) rfl #[] (by rfl) rfl rfl (by (try simp only [List.map_toArray, List.map_cons, List.map_nil]); first | done | rfl | (simp only [List.length_drop, List.length_take]; rfl)) ?_
            with_reducible refine (kauditlaw26_begun.calls k1  t191 _ ?side1 A71.out).mono ?_
            (case side1 => exact TabOk.below HT.out (by repeat (first | (with_reducible first | exact HB.out | apply below_alloc | apply pw_below_drewN | apply below_drew1 | refine below_set ?_ (IsS54.ge HI160.out) | refine below_set ?_ GE157.out | refine below_set ?_ GE165.out) | exact HB.out)))
            rintro e w76 ⟨rfl, hb⟩
            refine ⟨_, rfl, ?_⟩
            have n0_ := Aside0.mk (Kd.R_below (by (with_reducible repeat (first | apply Kd.R_alloc | apply Kd.R_drewN | apply Kd.R_drew)); exact HO_21.out) hb)
            have n1_ := Aside0.mk (blk_below (g := gb157) (o := .cells #[.int .i64 a0_0, .int .i64 a0_1, .int .i64 a0_2] 23 (0, 0)) (by (with_reducible repeat (first | refine blk_drewN ?_ _ | refine blk_drew ?_ | refine blk_alloc ?_ _)); exact BK157.out) hb)
            have n2_ := Aside0.mk (blk_below (g := gb165) (o := .cells #[.int .i64 t161, .int .i64 t162, .int .i64 t163] 23 (0, 0)) (by (with_reducible repeat (first | refine blk_drewN ?_ _ | refine blk_drew ?_ | refine blk_alloc ?_ _)); exact BK165.out) hb)
            have n3_ := Aside0.mk (IsS54.below (by repeat (first | (with_reducible first | exact HI160.out | apply IsS54.alloc | apply IsS54.drewN | apply IsS54.drew | apply IsS54.set_1 | refine IsS54.far ?_ NB160_157.out _ | refine IsS54.far ?_ NB160_165.out _) | exact HI160.out)) hb)
            have n4_ := Aside0.mk (below_step (by repeat (first | (with_reducible first | exact HB.out | apply below_alloc | apply pw_below_drewN | apply below_drew1 | refine below_set ?_ (IsS54.ge HI160.out) | refine below_set ?_ GE157.out | refine below_set ?_ GE165.out) | exact HB.out)) hb)
            clear HO_21
            clear BK157
            clear BK165
            clear HI160
            clear HB
            have HO_21 := n0_
            have BK157 := n1_
            have BK165 := n2_
            have HI160 := n3_
            have HB := n4_
            clear n0_ n1_ n2_ n3_ n4_
            (try clear hb)
            (try clear hb2)
            (try clear hk)
            (try clear hi)
            refine hK.out _ _ ⟨(blk_cell BK157.out 0).trans rfl, (blk_cell BK157.out 1).trans rfl, (blk_cell BK157.out 2).trans rfl, (blk_cell BK165.out 0).trans rfl, (blk_cell BK165.out 1).trans rfl, (blk_cell BK165.out 2).trans rfl⟩ (fun hHeld => ?_)
            clear hK K
            refine norm_ (a' := ?_) ?_ ?_
            rotate_left
            · show Act.put _ (some 76) _ = _
              simp only [Act.put, List.setIfInBounds_toArray, List.set_cons_zero, List.set_cons_succ, i64_w, i32_w]
              rfl
            refine pure_ (i := 11) (N := some 77) (v := ?_) (a' := ?_) #[true, true, true, true, true, true, true, true, true, true, true, true, false] rfl rfl (any_of HT_.out (by kernel_rfl)) (fun _ _ _ h => h) (Or.inl ⟨by rfl, ?_⟩) ?_ ?_
            rotate_left
            · intro w'
              go_simp
              with_reducible rfl
            rotate_left
            · simp only [Act.put, List.setIfInBounds_toArray, List.set_cons_zero, List.set_cons_succ, i64_w, i32_w]
              rfl
            refine pure_ (i := 12) (N := some 8) (v := ?_) (a' := ?_) #[true, true, true, true, true, true, true, true, true, true, true, true, true] rfl rfl (any_of HT_.out (by kernel_rfl)) (fun _ _ _ h => h) (Or.inl ⟨by rfl, ?_⟩) ?_ ?_
            rotate_left
            · intro w'
              go_simp
              with_reducible rfl
            rotate_left
            · simp only [Act.put, List.setIfInBounds_toArray, List.set_cons_zero, List.set_cons_succ, i64_w, i32_w]
              rfl
            refine done_ (done_of HT_.out (by kernel_rfl)) ?_
            try go_wp2
            go_ret
            exact ⟨by first | rfl | (simp [errW_none, errW_some] <;> rfl) | (simp [*, errW_none, errW_some] <;> rfl), by repeat (first | (with_reducible first | exact HB.out | apply below_alloc | apply pw_below_drewN | apply below_drew1 | refine below_set ?_ (IsS54.ge HI160.out) | refine below_set ?_ GE157.out | refine below_set ?_ GE165.out) | exact HB.out)⟩
          · replace c70 := Bool.eq_false_iff.mpr c70
            subst c70
            have H1 : (some false) = some r := by rw [if_neg (show ¬ (false = true) by decide)] at H; exact H
            clear H
            have H := H1
            clear H1
            obtain rfl := Option.some.inj H
            try go_wp2
            have n0_ := Aside0.mk (Kd.R_drew HO_21.out)
            have n1_ := Aside0.mk (blk_drew BK157.out)
            have n2_ := Aside0.mk (blk_drew BK165.out)
            have n3_ := Aside0.mk (IsS54.drew HI160.out)
            have n4_ := Aside0.mk (below_drew1 HB.out)
            clear HO_21
            clear BK157
            clear BK165
            clear HI160
            clear HB
            have HO_21 := n0_
            have BK157 := n1_
            have BK165 := n2_
            have HI160 := n3_
            have HB := n4_
            clear n0_ n1_ n2_ n3_ n4_
            refine start_ (n := 13) (S := fun w' => w'.cell? ⟨gb157, 0, none⟩ = some (.int .i64 a0_0) ∧ w'.cell? ⟨gb157, 1, none⟩ = some (.int .i64 a0_1) ∧ w'.cell? ⟨gb157, 2, none⟩ = some (.int .i64 a0_2) ∧ w'.cell? ⟨gb165, 0, none⟩ = some (.int .i64 t161) ∧ w'.cell? ⟨gb165, 1, none⟩ = some (.int .i64 t162) ∧ w'.cell? ⟨gb165, 2, none⟩ = some (.int .i64 t163)) (ds := []) #[false, false, false, false, false, false, false, false, false, false, false, false, false] (by kernel_rfl) rfl rfl ⟨(blk_cell BK157.out 0).trans rfl, (blk_cell BK157.out 1).trans rfl, (blk_cell BK157.out 2).trans rfl, (blk_cell BK165.out 0).trans rfl, (blk_cell BK165.out 1).trans rfl, (blk_cell BK165.out 2).trans rfl⟩ (fun hHeld => ?_); refine with_tabW kauditlaw26_RotateDue.tab13 kauditlaw26_RotateDue.bits13 (fun HT_ HW_ => ?_)
            generalize wr.drew = w77 at HO_21 BK157 BK165 HI160 HB hHeld ⊢
            refine take_ (i := 0) (N := some 66) (v := ?_) (a' := ?_) #[true, false, false, false, false, false, false, false, false, false, false, false, false] rfl rfl (take_ofW HT_.out HW_.out (by kernel_rfl)) (fun _ _ _ h => h) (Or.inl ⟨by rfl, ?_⟩) hHeld ?_ ?_
            rotate_left
            · rintro w' ⟨s0, s1, s2, s3, s4, s5⟩
              go_simp
              with_reducible rfl
            rotate_left
            · simp only [Act.put, List.setIfInBounds_toArray, List.set_cons_zero, List.set_cons_succ, i64_w, i32_w]
              rfl
            refine take_ (i := 2) (N := some 68) (v := ?_) (a' := ?_) #[true, false, true, false, false, false, false, false, false, false, false, false, false] rfl rfl (take_ofW HT_.out HW_.out (by kernel_rfl)) (fun _ _ _ h => h) (Or.inl ⟨by rfl, ?_⟩) hHeld ?_ ?_
            rotate_left
            · rintro w' ⟨s0, s1, s2, s3, s4, s5⟩
              go_simp
              with_reducible rfl
            rotate_left
            · simp only [Act.put, List.setIfInBounds_toArray, List.set_cons_zero, List.set_cons_succ, i64_w, i32_w]
              rfl
            refine one_ (i := 1) (N := some 67) #[true, true, true, false, false, false, false, false, false, false, false, false, false] rfl rfl (one_of HT_.out (by kernel_rfl)) (by decide) (fun K hK => ?_)
            refine goes_ Tryd.func14 (by kernel_rfl) rfl #[.agg #[.int .i64 a0_0, .int .i64 a0_1, .int .i64 a0_2]] (by rfl) rfl rfl (by (try simp only [List.map_toArray, List.map_cons, List.map_nil]); first | done | rfl | (simp only [List.length_drop, List.length_take]; rfl)) ?_
            with_reducible refine (rotate_Valid.calls a0_0 a0_1 a0_2 t188 _ A66.out).mono ?_
            rintro e w78 ⟨rfl, hb⟩
            refine ⟨_, rfl, ?_⟩
            have n0_ := Aside0.mk (Kd.R_below (by (with_reducible repeat (first | apply Kd.R_alloc | apply Kd.R_drewN | apply Kd.R_drew)); exact HO_21.out) hb)
            have n1_ := Aside0.mk (blk_below (g := gb157) (o := .cells #[.int .i64 a0_0, .int .i64 a0_1, .int .i64 a0_2] 23 (0, 0)) (by (with_reducible repeat (first | refine blk_drewN ?_ _ | refine blk_drew ?_ | refine blk_alloc ?_ _)); exact BK157.out) hb)
            have n2_ := Aside0.mk (blk_below (g := gb165) (o := .cells #[.int .i64 t161, .int .i64 t162, .int .i64 t163] 23 (0, 0)) (by (with_reducible repeat (first | refine blk_drewN ?_ _ | refine blk_drew ?_ | refine blk_alloc ?_ _)); exact BK165.out) hb)
            have n3_ := Aside0.mk (IsS54.below (by repeat (first | (with_reducible first | exact HI160.out | apply IsS54.alloc | apply IsS54.drewN | apply IsS54.drew | apply IsS54.set_1 | refine IsS54.far ?_ NB160_157.out _ | refine IsS54.far ?_ NB160_165.out _) | exact HI160.out)) hb)
            have n4_ := Aside0.mk (below_step (by repeat (first | (with_reducible first | exact HB.out | apply below_alloc | apply pw_below_drewN | apply below_drew1 | refine below_set ?_ (IsS54.ge HI160.out) | refine below_set ?_ GE157.out | refine below_set ?_ GE165.out) | exact HB.out)) hb)
            clear HO_21
            clear BK157
            clear BK165
            clear HI160
            clear HB
            have HO_21 := n0_
            have BK157 := n1_
            have BK165 := n2_
            have HI160 := n3_
            have HB := n4_
            clear n0_ n1_ n2_ n3_ n4_
            (try clear hb)
            (try clear hb2)
            (try clear hk)
            (try clear hi)
            refine hK.out _ _ ⟨(blk_cell BK157.out 0).trans rfl, (blk_cell BK157.out 1).trans rfl, (blk_cell BK157.out 2).trans rfl, (blk_cell BK165.out 0).trans rfl, (blk_cell BK165.out 1).trans rfl, (blk_cell BK165.out 2).trans rfl⟩ (fun hHeld => ?_)
            clear hK K
            refine norm_ (a' := ?_) ?_ ?_
            rotate_left
            · show Act.put _ (some 67) _ = _
              simp only [Act.put, List.setIfInBounds_toArray, List.set_cons_zero, List.set_cons_succ, i64_w, i32_w]
              rfl
            refine one_ (i := 3) (N := some 69) #[true, true, true, true, false, false, false, false, false, false, false, false, false] rfl rfl (one_of HT_.out (by kernel_rfl)) (by decide) (fun K hK => ?_)
            refine goes_ Tryd.func15 (by kernel_rfl) rfl #[.agg #[.int .i64 a0_0, .int .i64 a0_1, .int .i64 a0_2]] (by rfl) rfl rfl (by (try simp only [List.map_toArray, List.map_cons, List.map_nil]); first | done | rfl | (simp only [List.length_drop, List.length_take]; rfl)) ?_
            with_reducible refine (kauditref26_RotateValid.calls a0_0 a0_1 a0_2 t189 _ A67.out).mono ?_
            rintro e w79 ⟨rfl, hb⟩
            refine ⟨_, rfl, ?_⟩
            have n0_ := Aside0.mk (Kd.R_below (by (with_reducible repeat (first | apply Kd.R_alloc | apply Kd.R_drewN | apply Kd.R_drew)); exact HO_21.out) hb)
            have n1_ := Aside0.mk (blk_below (g := gb157) (o := .cells #[.int .i64 a0_0, .int .i64 a0_1, .int .i64 a0_2] 23 (0, 0)) (by (with_reducible repeat (first | refine blk_drewN ?_ _ | refine blk_drew ?_ | refine blk_alloc ?_ _)); exact BK157.out) hb)
            have n2_ := Aside0.mk (blk_below (g := gb165) (o := .cells #[.int .i64 t161, .int .i64 t162, .int .i64 t163] 23 (0, 0)) (by (with_reducible repeat (first | refine blk_drewN ?_ _ | refine blk_drew ?_ | refine blk_alloc ?_ _)); exact BK165.out) hb)
            have n3_ := Aside0.mk (IsS54.below (by repeat (first | (with_reducible first | exact HI160.out | apply IsS54.alloc | apply IsS54.drewN | apply IsS54.drew | apply IsS54.set_1 | refine IsS54.far ?_ NB160_157.out _ | refine IsS54.far ?_ NB160_165.out _) | exact HI160.out)) hb)
            have n4_ := Aside0.mk (below_step (by repeat (first | (with_reducible first | exact HB.out | apply below_alloc | apply pw_below_drewN | apply below_drew1 | refine below_set ?_ (IsS54.ge HI160.out) | refine below_set ?_ GE157.out | refine below_set ?_ GE165.out) | exact HB.out)) hb)
            clear HO_21
            clear BK157
            clear BK165
            clear HI160
            clear HB
            have HO_21 := n0_
            have BK157 := n1_
            have BK165 := n2_
            have HI160 := n3_
            have HB := n4_
            clear n0_ n1_ n2_ n3_ n4_
            (try clear hb)
            (try clear hb2)
            (try clear hk)
            (try clear hi)
            refine hK.out _ _ ⟨(blk_cell BK157.out 0).trans rfl, (blk_cell BK157.out 1).trans rfl, (blk_cell BK157.out 2).trans rfl, (blk_cell BK165.out 0).trans rfl, (blk_cell BK165.out 1).trans rfl, (blk_cell BK165.out 2).trans rfl⟩ (fun hHeld => ?_)
            clear hK K
            refine norm_ (a' := ?_) ?_ ?_
            rotate_left
            · show Act.put _ (some 69) _ = _
              simp only [Act.put, List.setIfInBounds_toArray, List.set_cons_zero, List.set_cons_succ, i64_w, i32_w]
              rfl
            refine pure_ (i := 4) (N := some 70) (v := ?_) (a' := ?_) #[true, true, true, true, true, false, false, false, false, false, false, false, false] rfl rfl (any_of HT_.out (by kernel_rfl)) (fun _ _ _ h => h) (Or.inl ⟨by rfl, ?_⟩) ?_ ?_
            rotate_left
            · intro w'
              go_simp
              with_reducible rfl
            rotate_left
            · simp only [Act.put, List.setIfInBounds_toArray, List.set_cons_zero, List.set_cons_succ, i64_w, i32_w]
              rfl
            refine pure_ (i := 5) (N := some 71) (v := ?_) (a' := ?_) #[true, true, true, true, true, true, false, false, false, false, false, false, false] rfl rfl (any_of HT_.out (by kernel_rfl)) (fun _ _ _ h => h) (Or.inl ⟨by rfl, ?_⟩) ?_ ?_
            rotate_left
            · intro w'
              go_simp
              with_reducible rfl
            rotate_left
            · simp only [Act.put, List.setIfInBounds_toArray, List.set_cons_zero, List.set_cons_succ, i64_w, i32_w]
              rfl
            refine take_ (i := 6) (N := some 72) (v := ?_) (a' := ?_) #[true, true, true, true, true, true, true, false, false, false, false, false, false] rfl rfl (take_ofW HT_.out HW_.out (by kernel_rfl)) (fun _ _ _ h => h) (Or.inl ⟨by rfl, ?_⟩) hHeld ?_ ?_
            rotate_left
            · rintro w' ⟨s0, s1, s2, s3, s4, s5⟩
              go_simp
              with_reducible rfl
            rotate_left
            · simp only [Act.put, List.setIfInBounds_toArray, List.set_cons_zero, List.set_cons_succ, i64_w, i32_w]
              rfl
            refine one_ (i := 7) (N := some 73) #[true, true, true, true, true, true, true, true, false, false, false, false, false] rfl rfl (one_of HT_.out (by kernel_rfl)) (by decide) (fun K hK => ?_)
            refine goes_ Tryd.func14 (by kernel_rfl) rfl #[.agg #[.int .i64 t161, .int .i64 t162, .int .i64 t163]] (by rfl) rfl rfl (by (try simp only [List.map_toArray, List.map_cons, List.map_nil]); first | done | rfl | (simp only [List.length_drop, List.length_take]; rfl)) ?_
            with_reducible refine (rotate_Valid.calls t161 t162 t163 false _ A69.out).mono ?_
            rintro e w80 ⟨rfl, hb⟩
            refine ⟨_, rfl, ?_⟩
            have n0_ := Aside0.mk (Kd.R_below (by (with_reducible repeat (first | apply Kd.R_alloc | apply Kd.R_drewN | apply Kd.R_drew)); exact HO_21.out) hb)
            have n1_ := Aside0.mk (blk_below (g := gb157) (o := .cells #[.int .i64 a0_0, .int .i64 a0_1, .int .i64 a0_2] 23 (0, 0)) (by (with_reducible repeat (first | refine blk_drewN ?_ _ | refine blk_drew ?_ | refine blk_alloc ?_ _)); exact BK157.out) hb)
            have n2_ := Aside0.mk (blk_below (g := gb165) (o := .cells #[.int .i64 t161, .int .i64 t162, .int .i64 t163] 23 (0, 0)) (by (with_reducible repeat (first | refine blk_drewN ?_ _ | refine blk_drew ?_ | refine blk_alloc ?_ _)); exact BK165.out) hb)
            have n3_ := Aside0.mk (IsS54.below (by repeat (first | (with_reducible first | exact HI160.out | apply IsS54.alloc | apply IsS54.drewN | apply IsS54.drew | apply IsS54.set_1 | refine IsS54.far ?_ NB160_157.out _ | refine IsS54.far ?_ NB160_165.out _) | exact HI160.out)) hb)
            have n4_ := Aside0.mk (below_step (by repeat (first | (with_reducible first | exact HB.out | apply below_alloc | apply pw_below_drewN | apply below_drew1 | refine below_set ?_ (IsS54.ge HI160.out) | refine below_set ?_ GE157.out | refine below_set ?_ GE165.out) | exact HB.out)) hb)
            clear HO_21
            clear BK157
            clear BK165
            clear HI160
            clear HB
            have HO_21 := n0_
            have BK157 := n1_
            have BK165 := n2_
            have HI160 := n3_
            have HB := n4_
            clear n0_ n1_ n2_ n3_ n4_
            (try clear hb)
            (try clear hb2)
            (try clear hk)
            (try clear hi)
            refine hK.out _ _ ⟨(blk_cell BK157.out 0).trans rfl, (blk_cell BK157.out 1).trans rfl, (blk_cell BK157.out 2).trans rfl, (blk_cell BK165.out 0).trans rfl, (blk_cell BK165.out 1).trans rfl, (blk_cell BK165.out 2).trans rfl⟩ (fun hHeld => ?_)
            clear hK K
            refine norm_ (a' := ?_) ?_ ?_
            rotate_left
            · show Act.put _ (some 73) _ = _
              simp only [Act.put, List.setIfInBounds_toArray, List.set_cons_zero, List.set_cons_succ, i64_w, i32_w]
              rfl
            refine pure_ (i := 8) (N := some 74) (v := ?_) (a' := ?_) #[true, true, true, true, true, true, true, true, true, false, false, false, false] rfl rfl (any_of HT_.out (by kernel_rfl)) (fun _ _ _ h => h) (Or.inl ⟨by rfl, ?_⟩) ?_ ?_
            rotate_left
            · intro w'
              go_simp
              with_reducible rfl
            rotate_left
            · simp only [Act.put, List.setIfInBounds_toArray, List.set_cons_zero, List.set_cons_succ, i64_w, i32_w]
              rfl
            refine pure_ (i := 9) (N := some 75) (v := ?_) (a' := ?_) #[true, true, true, true, true, true, true, true, true, true, false, false, false] rfl rfl (any_of HT_.out (by kernel_rfl)) (fun _ _ _ h => h) (Or.inl ⟨by rfl, ?_⟩) ?_ ?_
            rotate_left
            · intro w'
              go_simp
              with_reducible rfl
            rotate_left
            · simp only [Act.put, List.setIfInBounds_toArray, List.set_cons_zero, List.set_cons_succ, i64_w, i32_w]
              rfl
            refine pure_ (i := 10) (N := some 76) (v := undef) (a' := ?_) #[true, true, true, true, true, true, true, true, true, true, true, false, false] rfl rfl (any_of HT_.out (by kernel_rfl)) (fun _ _ _ h => h) (Or.inr ⟨by rfl, rfl⟩) ?_ ?_
            rotate_left
            · simp only [Act.put, List.setIfInBounds_toArray, List.set_cons_zero, List.set_cons_succ, i64_w, i32_w]
              rfl
            refine pure_ (i := 11) (N := some 77) (v := ?_) (a' := ?_) #[true, true, true, true, true, true, true, true, true, true, true, true, false] rfl rfl (any_of HT_.out (by kernel_rfl)) (fun _ _ _ h => h) (Or.inl ⟨by rfl, ?_⟩) ?_ ?_
            rotate_left
            · intro w'
              go_simp
              with_reducible rfl
            rotate_left
            · simp only [Act.put, List.setIfInBounds_toArray, List.set_cons_zero, List.set_cons_succ, i64_w, i32_w]
              rfl
            refine pure_ (i := 12) (N := some 8) (v := ?_) (a' := ?_) #[true, true, true, true, true, true, true, true, true, true, true, true, true] rfl rfl (any_of HT_.out (by kernel_rfl)) (fun _ _ _ h => h) (Or.inl ⟨by rfl, ?_⟩) ?_ ?_
            rotate_left
            · intro w'
              go_simp
              with_reducible rfl
            rotate_left
            · simp only [Act.put, List.setIfInBounds_toArray, List.set_cons_zero, List.set_cons_succ, i64_w, i32_w]
              rfl
            refine done_ (done_of HT_.out (by kernel_rfl)) ?_
            try go_wp2
            go_ret
            exact ⟨by first | rfl | (simp [errW_none, errW_some] <;> rfl) | (simp [*, errW_none, errW_some] <;> rfl), by repeat (first | (with_reducible first | exact HB.out | apply below_alloc | apply pw_below_drewN | apply below_drew1 | refine below_set ?_ (IsS54.ge HI160.out) | refine below_set ?_ GE157.out | refine below_set ?_ GE165.out) | exact HB.out)⟩
        · rw [if_neg c68] at H
          have c68b0 : (t188 == t189) = false := by simpa using c68
          (try (have c68b1 : decide (t188 = t189) = false := by simpa using c68))
          (try (have c68b2 : (t188 == t189) = false := by simpa using c68))
          (try (have c68b3 : ¬ (t188 = t189) := by simpa using c68))
          clear c68
          obtain rfl := Option.some.inj H
          try go_wp2
          have n0_ := Aside0.mk (Kd.R_drew HO_21.out)
          have n1_ := Aside0.mk (blk_drew BK157.out)
          have n2_ := Aside0.mk (blk_drew BK165.out)
          have n3_ := Aside0.mk (IsS54.drew HI160.out)
          have n4_ := Aside0.mk (below_drew1 HB.out)
          clear HO_21
          clear BK157
          clear BK165
          clear HI160
          clear HB
          have HO_21 := n0_
          have BK157 := n1_
          have BK165 := n2_
          have HI160 := n3_
          have HB := n4_
          clear n0_ n1_ n2_ n3_ n4_
          refine start_ (n := 13) (S := fun w' => w'.cell? ⟨gb157, 0, none⟩ = some (.int .i64 a0_0) ∧ w'.cell? ⟨gb157, 1, none⟩ = some (.int .i64 a0_1) ∧ w'.cell? ⟨gb157, 2, none⟩ = some (.int .i64 a0_2)) (ds := []) #[false, false, false, false, false, false, false, false, false, false, false, false, false] (by kernel_rfl) rfl rfl ⟨(blk_cell BK157.out 0).trans rfl, (blk_cell BK157.out 1).trans rfl, (blk_cell BK157.out 2).trans rfl⟩ (fun hHeld => ?_); refine with_tabW kauditlaw26_RotateDue.tab13 kauditlaw26_RotateDue.bits13 (fun HT_ HW_ => ?_)
          generalize wr.drew = w81 at HO_21 BK157 BK165 HI160 HB hHeld ⊢
          refine take_ (i := 0) (N := some 66) (v := ?_) (a' := ?_) #[true, false, false, false, false, false, false, false, false, false, false, false, false] rfl rfl (take_ofW HT_.out HW_.out (by kernel_rfl)) (fun _ _ _ h => h) (Or.inl ⟨by rfl, ?_⟩) hHeld ?_ ?_
          rotate_left
          · rintro w' ⟨s0, s1, s2⟩
            go_simp
            with_reducible rfl
          rotate_left
          · simp only [Act.put, List.setIfInBounds_toArray, List.set_cons_zero, List.set_cons_succ, i64_w, i32_w]
            rfl
          refine take_ (i := 2) (N := some 68) (v := ?_) (a' := ?_) #[true, false, true, false, false, false, false, false, false, false, false, false, false] rfl rfl (take_ofW HT_.out HW_.out (by kernel_rfl)) (fun _ _ _ h => h) (Or.inl ⟨by rfl, ?_⟩) hHeld ?_ ?_
          rotate_left
          · rintro w' ⟨s0, s1, s2⟩
            go_simp
            with_reducible rfl
          rotate_left
          · simp only [Act.put, List.setIfInBounds_toArray, List.set_cons_zero, List.set_cons_succ, i64_w, i32_w]
            rfl
          refine one_ (i := 1) (N := some 67) #[true, true, true, false, false, false, false, false, false, false, false, false, false] rfl rfl (one_of HT_.out (by kernel_rfl)) (by decide) (fun K hK => ?_)
          refine goes_ Tryd.func14 (by kernel_rfl) rfl #[.agg #[.int .i64 a0_0, .int .i64 a0_1, .int .i64 a0_2]] (by rfl) rfl rfl (by (try simp only [List.map_toArray, List.map_cons, List.map_nil]); first | done | rfl | (simp only [List.length_drop, List.length_take]; rfl)) ?_
          with_reducible refine (rotate_Valid.calls a0_0 a0_1 a0_2 t188 _ A66.out).mono ?_
          rintro e w82 ⟨rfl, hb⟩
          refine ⟨_, rfl, ?_⟩
          have n0_ := Aside0.mk (Kd.R_below (by (with_reducible repeat (first | apply Kd.R_alloc | apply Kd.R_drewN | apply Kd.R_drew)); exact HO_21.out) hb)
          have n1_ := Aside0.mk (blk_below (g := gb157) (o := .cells #[.int .i64 a0_0, .int .i64 a0_1, .int .i64 a0_2] 23 (0, 0)) (by (with_reducible repeat (first | refine blk_drewN ?_ _ | refine blk_drew ?_ | refine blk_alloc ?_ _)); exact BK157.out) hb)
          have n2_ := Aside0.mk (blk_below (g := gb165) (o := .cells #[.int .i64 t161, .int .i64 t162, .int .i64 t163] 23 (0, 0)) (by (with_reducible repeat (first | refine blk_drewN ?_ _ | refine blk_drew ?_ | refine blk_alloc ?_ _)); exact BK165.out) hb)
          have n3_ := Aside0.mk (IsS54.below (by repeat (first | (with_reducible first | exact HI160.out | apply IsS54.alloc | apply IsS54.drewN | apply IsS54.drew | apply IsS54.set_1 | refine IsS54.far ?_ NB160_157.out _ | refine IsS54.far ?_ NB160_165.out _) | exact HI160.out)) hb)
          have n4_ := Aside0.mk (below_step (by repeat (first | (with_reducible first | exact HB.out | apply below_alloc | apply pw_below_drewN | apply below_drew1 | refine below_set ?_ (IsS54.ge HI160.out) | refine below_set ?_ GE157.out | refine below_set ?_ GE165.out) | exact HB.out)) hb)
          clear HO_21
          clear BK157
          clear BK165
          clear HI160
          clear HB
          have HO_21 := n0_
          have BK157 := n1_
          have BK165 := n2_
          have HI160 := n3_
          have HB := n4_
          clear n0_ n1_ n2_ n3_ n4_
          (try clear hb)
          (try clear hb2)
          (try clear hk)
          (try clear hi)
          refine hK.out _ _ ⟨(blk_cell BK157.out 0).trans rfl, (blk_cell BK157.out 1).trans rfl, (blk_cell BK157.out 2).trans rfl⟩ (fun hHeld => ?_)
          clear hK K
          refine norm_ (a' := ?_) ?_ ?_
          rotate_left
          · show Act.put _ (some 67) _ = _
            simp only [Act.put, List.setIfInBounds_toArray, List.set_cons_zero, List.set_cons_succ, i64_w, i32_w]
            rfl
          refine one_ (i := 3) (N := some 69) #[true, true, true, true, false, false, false, false, false, false, false, false, false] rfl rfl (one_of HT_.out (by kernel_rfl)) (by decide) (fun K hK => ?_)
          refine goes_ Tryd.func15 (by kernel_rfl) rfl #[.agg #[.int .i64 a0_0, .int .i64 a0_1, .int .i64 a0_2]] (by rfl) rfl rfl (by (try simp only [List.map_toArray, List.map_cons, List.map_nil]); first | done | rfl | (simp only [List.length_drop, List.length_take]; rfl)) ?_
          with_reducible refine (kauditref26_RotateValid.calls a0_0 a0_1 a0_2 t189 _ A67.out).mono ?_
          rintro e w83 ⟨rfl, hb⟩
          refine ⟨_, rfl, ?_⟩
          have n0_ := Aside0.mk (Kd.R_below (by (with_reducible repeat (first | apply Kd.R_alloc | apply Kd.R_drewN | apply Kd.R_drew)); exact HO_21.out) hb)
          have n1_ := Aside0.mk (blk_below (g := gb157) (o := .cells #[.int .i64 a0_0, .int .i64 a0_1, .int .i64 a0_2] 23 (0, 0)) (by (with_reducible repeat (first | refine blk_drewN ?_ _ | refine blk_drew ?_ | refine blk_alloc ?_ _)); exact BK157.out) hb)
          have n2_ := Aside0.mk (blk_below (g := gb165) (o := .cells #[.int .i64 t161, .int .i64 t162, .int .i64 t163] 23 (0, 0)) (by (with_reducible repeat (first | refine blk_drewN ?_ _ | refine blk_drew ?_ | refine blk_alloc ?_ _)); exact BK165.out) hb)
          have n3_ := Aside0.mk (IsS54.below (by repeat (first | (with_reducible first | exact HI160.out | apply IsS54.alloc | apply IsS54.drewN | apply IsS54.drew | apply IsS54.set_1 | refine IsS54.far ?_ NB160_157.out _ | refine IsS54.far ?_ NB160_165.out _) | exact HI160.out)) hb)
          have n4_ := Aside0.mk (below_step (by repeat (first | (with_reducible first | exact HB.out | apply below_alloc | apply pw_below_drewN | apply below_drew1 | refine below_set ?_ (IsS54.ge HI160.out) | refine below_set ?_ GE157.out | refine below_set ?_ GE165.out) | exact HB.out)) hb)
          clear HO_21
          clear BK157
          clear BK165
          clear HI160
          clear HB
          have HO_21 := n0_
          have BK157 := n1_
          have BK165 := n2_
          have HI160 := n3_
          have HB := n4_
          clear n0_ n1_ n2_ n3_ n4_
          (try clear hb)
          (try clear hb2)
          (try clear hk)
          (try clear hi)
          refine hK.out _ _ ⟨(blk_cell BK157.out 0).trans rfl, (blk_cell BK157.out 1).trans rfl, (blk_cell BK157.out 2).trans rfl⟩ (fun hHeld => ?_)
          clear hK K
          refine norm_ (a' := ?_) ?_ ?_
          rotate_left
          · show Act.put _ (some 69) _ = _
            simp only [Act.put, List.setIfInBounds_toArray, List.set_cons_zero, List.set_cons_succ, i64_w, i32_w]
            rfl
          refine pure_ (i := 4) (N := some 70) (v := ?_) (a' := ?_) #[true, true, true, true, true, false, false, false, false, false, false, false, false] rfl rfl (any_of HT_.out (by kernel_rfl)) (fun _ _ _ h => h) (Or.inl ⟨by rfl, ?_⟩) ?_ ?_
          rotate_left
          · intro w'
            go_simp
            with_reducible rfl
          rotate_left
          · simp only [Act.put, List.setIfInBounds_toArray, List.set_cons_zero, List.set_cons_succ, i64_w, i32_w]
            rfl
          refine pure_ (i := 5) (N := some 71) (v := ?_) (a' := ?_) #[true, true, true, true, true, true, false, false, false, false, false, false, false] rfl rfl (any_of HT_.out (by kernel_rfl)) (fun _ _ _ h => h) (Or.inl ⟨by rfl, ?_⟩) ?_ ?_
          rotate_left
          · intro w'
            go_simp
            with_reducible rfl
          rotate_left
          · simp only [Act.put, List.setIfInBounds_toArray, List.set_cons_zero, List.set_cons_succ, i64_w, i32_w]
            rfl
          refine pure_ (i := 6) (N := some 72) (v := undef) (a' := ?_) #[true, true, true, true, true, true, true, false, false, false, false, false, false] rfl rfl (any_of HT_.out (by kernel_rfl)) (fun _ _ _ h => h) (Or.inr ⟨by rfl, rfl⟩) ?_ ?_
          rotate_left
          · simp only [Act.put, List.setIfInBounds_toArray, List.set_cons_zero, List.set_cons_succ, i64_w, i32_w]
            rfl
          refine pure_ (i := 7) (N := some 73) (v := undef) (a' := ?_) #[true, true, true, true, true, true, true, true, false, false, false, false, false] rfl rfl (any_of HT_.out (by kernel_rfl)) (fun _ _ _ h => h) (Or.inr ⟨by rfl, rfl⟩) ?_ ?_
          rotate_left
          · simp only [Act.put, List.setIfInBounds_toArray, List.set_cons_zero, List.set_cons_succ, i64_w, i32_w]
            rfl
          refine pure_ (i := 8) (N := some 74) (v := ?_) (a' := ?_) #[true, true, true, true, true, true, true, true, true, false, false, false, false] rfl rfl (any_of HT_.out (by kernel_rfl)) (fun _ _ _ h => h) (Or.inl ⟨by rfl, ?_⟩) ?_ ?_
          rotate_left
          · intro w'
            go_simp
            with_reducible rfl
          rotate_left
          · simp only [Act.put, List.setIfInBounds_toArray, List.set_cons_zero, List.set_cons_succ, i64_w, i32_w]
            rfl
          refine pure_ (i := 9) (N := some 75) (v := ?_) (a' := ?_) #[true, true, true, true, true, true, true, true, true, true, false, false, false] rfl rfl (any_of HT_.out (by kernel_rfl)) (fun _ _ _ h => h) (Or.inl ⟨by rfl, ?_⟩) ?_ ?_
          rotate_left
          · intro w'
            go_simp
            with_reducible rfl
          rotate_left
          · simp only [Act.put, List.setIfInBounds_toArray, List.set_cons_zero, List.set_cons_succ, i64_w, i32_w]
            rfl
          refine pure_ (i := 10) (N := some 76) (v := undef) (a' := ?_) #[true, true, true, true, true, true, true, true, true, true, true, false, false] rfl rfl (any_of HT_.out (by kernel_rfl)) (fun _ _ _ h => h) (Or.inr ⟨by rfl, rfl⟩) ?_ ?_
          rotate_left
          · simp only [Act.put, List.setIfInBounds_toArray, List.set_cons_zero, List.set_cons_succ, i64_w, i32_w]
            rfl
          refine pure_ (i := 11) (N := some 77) (v := ?_) (a' := ?_) #[true, true, true, true, true, true, true, true, true, true, true, true, false] rfl rfl (any_of HT_.out (by kernel_rfl)) (fun _ _ _ h => h) (Or.inl ⟨by rfl, ?_⟩) ?_ ?_
          rotate_left
          · intro w'
            go_simp
            with_reducible rfl
          rotate_left
          · simp only [Act.put, List.setIfInBounds_toArray, List.set_cons_zero, List.set_cons_succ, i64_w, i32_w]
            rfl
          refine pure_ (i := 12) (N := some 8) (v := ?_) (a' := ?_) #[true, true, true, true, true, true, true, true, true, true, true, true, true] rfl rfl (any_of HT_.out (by kernel_rfl)) (fun _ _ _ h => h) (Or.inl ⟨by rfl, ?_⟩) ?_ ?_
          rotate_left
          · intro w'
            go_simp
            with_reducible rfl
          rotate_left
          · simp only [Act.put, List.setIfInBounds_toArray, List.set_cons_zero, List.set_cons_succ, i64_w, i32_w]
            rfl
          refine done_ (done_of HT_.out (by kernel_rfl)) ?_
          try go_wp2
          go_ret
          exact ⟨by first | rfl | (simp [errW_none, errW_some] <;> rfl) | (simp [*, errW_none, errW_some] <;> rfl), by repeat (first | (with_reducible first | exact HB.out | apply below_alloc | apply pw_below_drewN | apply below_drew1 | refine below_set ?_ (IsS54.ge HI160.out) | refine below_set ?_ GE157.out | refine below_set ?_ GE165.out) | exact HB.out)⟩

end Go.Proofs.YtadjaakmpjhdhaaDoor.Q
