-- Printed by px.py: a changed copy of the kit's printer, with contracts of this session's own in it. Not trusted: Lean checks it.
import Derived.Test.YtjgehecnamadcaaDoorQx0
import Derived.Test.YtjgehecnamadcaaDoorQx4
namespace Go.Proofs.YtjgehecnamadcaaDoor.Q
open Go.RowKit Go.Proofs.YtjgehecnamadcaaDoorW.PrintWords Go.Proofs.YtjgehecnamadcaaDoorW.PrintLast Go.Proofs.YtjgehecnamadcaaDoorW.PrintMore
attribute [local go_sem] max2_int min2_int max_two min_two max_three min_three max_four min_four   -- for this text's walks alone
set_option linter.unusedVariables false
set_option linter.unusedSimpArgs false

theorem qrQx5_0 {p : Prop} (h : p := by show w.heap.size ≤ w.heap.size + 2 + 1; omega) : p := h
theorem qrQx5_1 {p : Prop} (h : p := by show w.heap.size + 2 ≠ w.heap.size + 2 + 1; omega) : p := h
theorem qrQx5_2 {p : Prop} (h : p := by show w.heap.size + 1 ≠ w.heap.size + 2 + 1; omega) : p := h
/-! ### sessions_Of: function 8 -/
namespace KaRead
open Go.RowKit Go.Proofs.YtjgehecnamadcaaDoor.KaTake
abbrev R := S75
/-- The numbers of some names; none if one is missing. -/
def nums (k : Nat) (r : R) : List ByteArray → Option (Option (List Int))
  | [] => some (some [])
  | nm :: l => (sessions_number.f k r.f0 r.f1 r.f2 r.f3 nm).bind fun t => if t.2 = true then (nums k r l).bind fun o => some (o.map (t.1 :: ·)) else some none
def names : List ByteArray := [⟨#[112, 105, 100]⟩, ⟨#[115, 101, 115]⟩, ⟨#[97, 117, 105, 100]⟩, ⟨#[101, 120, 105, 116]⟩, ⟨#[97, 48]⟩, ⟨#[97, 49]⟩]
def zero : KaTake.Act := ⟨0, 0, 0, 0, 0, 0, ⟨#[]⟩, false⟩
def ofNums (ns : List Int) (call : ByteArray) (ok : Bool) : KaTake.Act := ⟨ns.getD 0 0, ns.getD 1 0, ns.getD 2 0, ns.getD 3 0, ns.getD 4 0, ns.getD 5 0, call, ok⟩
def read (k : Nat) (e : S34) (boot : Int) : Option (KaTake.Act × Bool) :=
  if e.f0 ≠ boot then some (zero, false) else if e.f3.length = 0 then some (zero, false) else if (rd_T75 e.f3 0).f0 ≠ 1300 then some (zero, false) else
  (nums k (rd_T75 e.f3 0) names).bind fun o => match o with
    | none => some (zero, false)
    | some ns => (sessions_text.f k (rd_T75 e.f3 0).f0 (rd_T75 e.f3 0).f1 (rd_T75 e.f3 0).f2 (rd_T75 e.f3 0).f3 ⟨#[99, 97, 108, 108]⟩).bind fun c => (sessions_text.f k (rd_T75 e.f3 0).f0 (rd_T75 e.f3 0).f1 (rd_T75 e.f3 0).f2 (rd_T75 e.f3 0).f3 ⟨#[115, 117, 99, 99, 101, 115, 115]⟩).bind fun s => if c.2 = false then some (zero, false) else if s.2 = false then some (zero, false) else some (ofNums ns c.1 (s.1.toList == [121, 101, 115]), true)
/-- The numbers so far, in the array. -/
def Loop (w : World) (g : Nat) (vs : List Int) : Prop := w.heap[g]? = some (.cells ((vs.map (Value.int .i64) ++ List.replicate (6 - vs.length) (Value.int .i64 0)).toArray) 84 (0, 0))
def zc : Array Value := #[.int .i64 0, .int .i64 0, .int .i64 0, .int .i64 0, .int .i64 0, .int .i64 0, .string ⟨#[]⟩, .bool false]
theorem put8 {W : World} {g : Nat} {t : TypeId} {a0 a1 a2 a3 a4 a5 a6 a7 : Value} (v0 v1 v2 v3 v4 v5 v6 v7 : Value) (h : W.heap[g]? = some (.cells #[a0, a1, a2, a3, a4, a5, a6, a7] t (0, 0))) :
    ((((((((W.setCell ⟨g, 0, none⟩ v0).setCell ⟨g, 1, none⟩ v1).setCell ⟨g, 2, none⟩ v2).setCell ⟨g, 3, none⟩ v3).setCell ⟨g, 4, none⟩ v4).setCell ⟨g, 5, none⟩ v5).setCell ⟨g, 6, none⟩ v6).setCell ⟨g, 7, none⟩ v7).heap[g]? = some (.cells #[v0, v1, v2, v3, v4, v5, v6, v7] t (0, 0)) := by
  have h0 : (W.setCell ⟨g, 0, none⟩ v0).heap[g]? = some (.cells #[v0, a1, a2, a3, a4, a5, a6, a7] t (0, 0)) := KaTake.blk_set h 0 v0
  have h1 : ((W.setCell ⟨g, 0, none⟩ v0).setCell ⟨g, 1, none⟩ v1).heap[g]? = some (.cells #[v0, v1, a2, a3, a4, a5, a6, a7] t (0, 0)) := KaTake.blk_set h0 1 v1
  have h2 : (((W.setCell ⟨g, 0, none⟩ v0).setCell ⟨g, 1, none⟩ v1).setCell ⟨g, 2, none⟩ v2).heap[g]? = some (.cells #[v0, v1, v2, a3, a4, a5, a6, a7] t (0, 0)) := KaTake.blk_set h1 2 v2
  have h3 : ((((W.setCell ⟨g, 0, none⟩ v0).setCell ⟨g, 1, none⟩ v1).setCell ⟨g, 2, none⟩ v2).setCell ⟨g, 3, none⟩ v3).heap[g]? = some (.cells #[v0, v1, v2, v3, a4, a5, a6, a7] t (0, 0)) := KaTake.blk_set h2 3 v3
  have h4 : (((((W.setCell ⟨g, 0, none⟩ v0).setCell ⟨g, 1, none⟩ v1).setCell ⟨g, 2, none⟩ v2).setCell ⟨g, 3, none⟩ v3).setCell ⟨g, 4, none⟩ v4).heap[g]? = some (.cells #[v0, v1, v2, v3, v4, a5, a6, a7] t (0, 0)) := KaTake.blk_set h3 4 v4
  have h5 : ((((((W.setCell ⟨g, 0, none⟩ v0).setCell ⟨g, 1, none⟩ v1).setCell ⟨g, 2, none⟩ v2).setCell ⟨g, 3, none⟩ v3).setCell ⟨g, 4, none⟩ v4).setCell ⟨g, 5, none⟩ v5).heap[g]? = some (.cells #[v0, v1, v2, v3, v4, v5, a6, a7] t (0, 0)) := KaTake.blk_set h4 5 v5
  have h6 : (((((((W.setCell ⟨g, 0, none⟩ v0).setCell ⟨g, 1, none⟩ v1).setCell ⟨g, 2, none⟩ v2).setCell ⟨g, 3, none⟩ v3).setCell ⟨g, 4, none⟩ v4).setCell ⟨g, 5, none⟩ v5).setCell ⟨g, 6, none⟩ v6).heap[g]? = some (.cells #[v0, v1, v2, v3, v4, v5, v6, a7] t (0, 0)) := KaTake.blk_set h5 6 v6
  have h7 : ((((((((W.setCell ⟨g, 0, none⟩ v0).setCell ⟨g, 1, none⟩ v1).setCell ⟨g, 2, none⟩ v2).setCell ⟨g, 3, none⟩ v3).setCell ⟨g, 4, none⟩ v4).setCell ⟨g, 5, none⟩ v5).setCell ⟨g, 6, none⟩ v6).setCell ⟨g, 7, none⟩ v7).heap[g]? = some (.cells #[v0, v1, v2, v3, v4, v5, v6, v7] t (0, 0)) := KaTake.blk_set h6 7 v7
  exact h7
theorem below8 {w W : World} {g b : Nat} (v0 v1 v2 v3 v4 v5 v6 v7 : Value) (h : Below b w W) (hg : b ≤ g) :
    Below b w ((((((((W.setCell ⟨g, 0, none⟩ v0).setCell ⟨g, 1, none⟩ v1).setCell ⟨g, 2, none⟩ v2).setCell ⟨g, 3, none⟩ v3).setCell ⟨g, 4, none⟩ v4).setCell ⟨g, 5, none⟩ v5).setCell ⟨g, 6, none⟩ v6).setCell ⟨g, 7, none⟩ v7) :=
  (((((((h.setCell (p := ⟨g, 0, none⟩) hg v0).setCell (p := ⟨g, 1, none⟩) hg v1).setCell (p := ⟨g, 2, none⟩) hg v2).setCell (p := ⟨g, 3, none⟩) hg v3).setCell (p := ⟨g, 4, none⟩) hg v4).setCell (p := ⟨g, 5, none⟩) hg v5).setCell (p := ⟨g, 6, none⟩) hg v6).setCell (p := ⟨g, 7, none⟩) hg v7
set_option maxRecDepth 100000 in
set_option maxHeartbeats 2000000 in
theorem read_calls (k : Nat) (e : S34) (boot : Int) (Ar : Option Addr) (cr : Nat) (r : KaTake.Act × Bool) (w : World) (hC : Kd.C k75 w Ar e.f3.length e.f3) (hc : e.f3.length ≤ cr) (h : read k e boot = some r) :
    Calls Tryd.prog 21 #[.agg #[.int .i64 e.f0, .int .i64 e.f1, .int .i64 e.f2, .slice Ar e.f3.length cr, .bool e.f4], .int .i64 boot] w fun en w' => en = .returned (.tuple #[r.1.val, .bool r.2]) ∧ Below w.heap.size w w' := by
  unfold read at h
  go_enter Tryd.func21, Tryd.ntmps21
  go_upto_region 1 with fail
  obtain ⟨W0, hW0⟩ : ∃ W, W = (w.alloc (.cells #[.int .i64 e.f0, .int .i64 e.f1, .int .i64 e.f2, .slice Ar e.f3.length cr, .bool e.f4] 34)).alloc (.cells #[.int .i64 0, .int .i64 0, .int .i64 0, .int .i64 0, .int .i64 0, .int .i64 0, .string ⟨#[]⟩, .bool false] 56) := ⟨_, rfl⟩
  rw [← hW0]
  have hB : Below w.heap.size w W0 := by rw [hW0]; exact ((Below.refl _ _).alloc (Nat.le_refl _) _).alloc (by simp) _
  have hb2 : W0.heap[w.heap.size]? = some (.cells #[.int .i64 e.f0, .int .i64 e.f1, .int .i64 e.f2, .slice Ar e.f3.length cr, .bool e.f4] 34 (0, 0)) := by
    rw [hW0, (MapKept.heap_alloc _ _).2 _ (by simp)]
    exact (MapKept.heap_alloc _ _).1
  have hb4 : W0.heap[w.heap.size + 1]? = some (.cells zc 56 (0, 0)) := by
    rw [hW0]
    have := (MapKept.heap_alloc (w.alloc (.cells #[.int .i64 e.f0, .int .i64 e.f1, .int .i64 e.f2, .slice Ar e.f3.length cr, .bool e.f4] 34)) (.cells #[.int .i64 0, .int .i64 0, .int .i64 0, .int .i64 0, .int .i64 0, .int .i64 0, .string ⟨#[]⟩, .bool false] 56)).1
    rw [show (w.alloc (.cells #[.int .i64 e.f0, .int .i64 e.f1, .int .i64 e.f2, .slice Ar e.f3.length cr, .bool e.f4] 34)).heap.size = w.heap.size + 1 by simp] at this
    exact this
  have hsz : W0.heap.size = w.heap.size + 2 := by rw [hW0]; simp
  have hC0 := Kd.C_below hC hB
  have b0 : W0.cell? ⟨w.heap.size, 0, none⟩ = some (.int .i64 e.f0) := by simp [World.cell?, hb2]
  have b3 : W0.cell? ⟨w.heap.size, 3, none⟩ = some (.slice Ar e.f3.length cr) := by simp [World.cell?, hb2]
  have hzz : ∀ i v, zc[i]? = some v → W0.cell? ⟨w.heap.size + 1, i, none⟩ = some v := fun i v hv => by simp [World.cell?, hb4, hv]
  have y0 : W0.cell? ⟨w.heap.size + 1, 0, none⟩ = some (.int .i64 0) := hzz 0 _ rfl
  have y1 : W0.cell? ⟨w.heap.size + 1, 1, none⟩ = some (.int .i64 0) := hzz 1 _ rfl
  have y2 : W0.cell? ⟨w.heap.size + 1, 2, none⟩ = some (.int .i64 0) := hzz 2 _ rfl
  have y3 : W0.cell? ⟨w.heap.size + 1, 3, none⟩ = some (.int .i64 0) := hzz 3 _ rfl
  have y4 : W0.cell? ⟨w.heap.size + 1, 4, none⟩ = some (.int .i64 0) := hzz 4 _ rfl
  have y5 : W0.cell? ⟨w.heap.size + 1, 5, none⟩ = some (.int .i64 0) := hzz 5 _ rfl
  have y6 : W0.cell? ⟨w.heap.size + 1, 6, none⟩ = some (.string ⟨#[]⟩) := hzz 6 _ rfl
  have y7 : W0.cell? ⟨w.heap.size + 1, 7, none⟩ = some (.bool false) := hzz 7 _ rfl
  have hfz : ∀ i, W0.frozen? ⟨w.heap.size + 1, i, none⟩ = false := fun i => by simp [World.frozen?, hb4]
  have HB := Lib.hid hB
  have HW0 := Lib.hid hW0
  have HC0 := Lib.hid hC0
  have HB4 := Lib.hid hb4
  clear hW0 hB hC0 hb4
  by_cases h1 : e.f0 = boot
  · rw [if_neg (by simpa using h1)] at h
    have e1 : (e.f0 != boot) = false := by simp [h1]
    by_cases h2 : e.f3.length = 0
    · rw [if_pos h2] at h
      obtain rfl := Option.some.inj h
      have e2 : ((e.f3.length : Int) == 0) = true := by simp [h2]
      clear h1 h2
      go_wp2_with fail
      exact bodyPost_ret (results_ct rfl _ _ (w.heap.size + 1) 56 zc (0, 0) _ rfl (put8 _ _ _ _ _ _ _ _ HB4.out) rfl rfl rfl) rfl ⟨rfl, below8 _ _ _ _ _ _ _ _ HB.out (by omega)⟩
    · rw [if_neg h2] at h
      have e2 : ((e.f3.length : Int) == 0) = false := by simpa using h2
      obtain ⟨ad, Ap, cp, rfl, a0, a1, a2, a3, hcp, hCp⟩ := at_T75 hC 0 (by omega) (by omega)
      have hadd : ad.add ((0 : Int).toNat * 4) = ad := by simp [Addr.add]
      rw [hadd] at a0 a1 a2 a3
      replace a0 := cell_later HB.out a0
      replace a1 := cell_later HB.out a1
      replace a2 := cell_later HB.out a2
      replace a3 := cell_later HB.out a3
      have HX := Lib.hid hCp
      by_cases h3 : (rd_T75 e.f3 0).f0 = 1300
      · rw [if_neg (by simpa using h3)] at h
        have e3 : ((rd_T75 e.f3 0).f0 != 1300) = false := by simp [h3]
        have H3 := Lib.hid h3
        clear h1 h3
        obtain ⟨o, hnums, h⟩ := Option.bind_eq_some_iff.1 h
        have HN := Lib.hid hnums
        have HH := Lib.hid h
        clear hnums h
        go_wp2_with fail
        obtain ⟨W3, hW3⟩ : ∃ W, W = (W0.alloc (.cells #[.int .i64 (rd_T75 e.f3 0).f0, .int .i64 (rd_T75 e.f3 0).f1, .int .i64 (rd_T75 e.f3 0).f2, .slice Ap (rd_T75 e.f3 0).f3.length cp] 75)).alloc (.cells #[.int .i64 0, .int .i64 0, .int .i64 0, .int .i64 0, .int .i64 0, .int .i64 0] 84) := ⟨_, rfl⟩
        rw [← hW3]
        have hs0 : (W0.alloc (.cells #[.int .i64 (rd_T75 e.f3 0).f0, .int .i64 (rd_T75 e.f3 0).f1, .int .i64 (rd_T75 e.f3 0).f2, .slice Ap (rd_T75 e.f3 0).f3.length cp] 75)).heap.size = w.heap.size + 2 + 1 := by simp [hsz]
        have hb6 : W3.heap[w.heap.size + 2]? = some (.cells #[.int .i64 (rd_T75 e.f3 0).f0, .int .i64 (rd_T75 e.f3 0).f1, .int .i64 (rd_T75 e.f3 0).f2, .slice Ap (rd_T75 e.f3 0).f3.length cp] 75 (0, 0)) := by
          rw [hW3, (MapKept.heap_alloc _ _).2 _ (by omega)]
          have := (MapKept.heap_alloc W0 (.cells #[.int .i64 (rd_T75 e.f3 0).f0, .int .i64 (rd_T75 e.f3 0).f1, .int .i64 (rd_T75 e.f3 0).f2, .slice Ap (rd_T75 e.f3 0).f3.length cp] 75)).1
          rw [hsz] at this
          exact this
        have hb7 : W3.heap[w.heap.size + 2 + 1]? = some (.cells #[.int .i64 0, .int .i64 0, .int .i64 0, .int .i64 0, .int .i64 0, .int .i64 0] 84 (0, 0)) := by
          have := (MapKept.heap_alloc (W0.alloc (.cells #[.int .i64 (rd_T75 e.f3 0).f0, .int .i64 (rd_T75 e.f3 0).f1, .int .i64 (rd_T75 e.f3 0).f2, .slice Ap (rd_T75 e.f3 0).f3.length cp] 75)) (.cells #[.int .i64 0, .int .i64 0, .int .i64 0, .int .i64 0, .int .i64 0, .int .i64 0] 84)).1
          rw [hs0] at this
          rw [hW3]
          exact this
        have hb43 : W3.heap[w.heap.size + 1]? = some (.cells zc 56 (0, 0)) := by
          rw [hW3, (MapKept.heap_alloc _ _).2 _ (by omega), (MapKept.heap_alloc _ _).2 _ (by omega)]
          exact HB4.out
        have hB3 : Below w.heap.size w W3 := by
          rw [hW3]
          exact ((HB.out).alloc (by omega) _).alloc (by rw [hs0]; omega) _
        have hsz3 : w.heap.size + 4 ≤ W3.heap.size := by rw [hW3]; simp [hsz]
        have HW3 := Lib.hid hW3
        clear hW3 hs0
        go_loopw [39] (fun v39 wr => ∃ vs : List Int, vs.length ≤ 6 ∧ v39 = .int .i64 (vs.length : Int) ∧ Loop wr (w.heap.size + 2 + 1) vs ∧ wr.heap[w.heap.size + 2]? = some (.cells #[.int .i64 (rd_T75 e.f3 0).f0, .int .i64 (rd_T75 e.f3 0).f1, .int .i64 (rd_T75 e.f3 0).f2, .slice Ap (rd_T75 e.f3 0).f3.length cp] 75 (0, 0)) ∧ wr.heap[w.heap.size + 1]? = some (.cells zc 56 (0, 0)) ∧ Below w.heap.size w wr ∧ w.heap.size + 4 ≤ wr.heap.size ∧ ∃ o', nums k (rd_T75 e.f3 0) (names.drop vs.length) = some o' ∧ o = o'.map (vs ++ ·)) (fun v39 _ => 6 - (intOf v39).toNat)
        case atStart => exact ⟨[], by simp, rfl, hb7, hb6, hb43, hB3, hsz3, o, HN.out, by cases o <;> rfl⟩
        case round =>
          obtain ⟨vs, hvs, rfl, hL, h6, h4, hBw, hsw, o', ho', hoo⟩ := hrel
          have HO := Lib.hid hoo
          have HL := Lib.hid hL
          have H4 := Lib.hid h4
          have HBw := Lib.hid hBw
          have H6 := Lib.hid h6
          have r0 : wr.cell? ⟨w.heap.size + 2, 0, none⟩ = some (.int .i64 (rd_T75 e.f3 0).f0) := by simp [World.cell?, h6]
          have r1 : wr.cell? ⟨w.heap.size + 2, 1, none⟩ = some (.int .i64 (rd_T75 e.f3 0).f1) := by simp [World.cell?, h6]
          have r2 : wr.cell? ⟨w.heap.size + 2, 2, none⟩ = some (.int .i64 (rd_T75 e.f3 0).f2) := by simp [World.cell?, h6]
          have r3 : wr.cell? ⟨w.heap.size + 2, 3, none⟩ = some (.slice Ap (rd_T75 e.f3 0).f3.length cp) := by simp [World.cell?, h6]
          have HCp := Lib.hid (Kd.C_below (HX.out) hBw)
          clear hoo hL h4 hBw h6
          rcases vs with _ | ⟨x0, _ | ⟨x1, _ | ⟨x2, _ | ⟨x3, _ | ⟨x4, _ | ⟨x5, _ | ⟨x6, tl⟩⟩⟩⟩⟩⟩⟩
          · have hb : wr.heap[w.heap.size + 2 + 1]? = some (.cells #[.int .i64 0, .int .i64 0, .int .i64 0, .int .i64 0, .int .i64 0, .int .i64 0] 84 (0, 0)) := HL.out
            have hidx : ∀ W : World, (Instr.index 85 (.agg #[.string ⟨#[112, 105, 100]⟩, .string ⟨#[115, 101, 115]⟩, .string ⟨#[97, 117, 105, 100]⟩, .string ⟨#[101, 120, 105, 116]⟩, .string ⟨#[97, 48]⟩, .string ⟨#[97, 49]⟩]) (.int .i64 0)).run Tryd.prog W = .ok (.string ⟨#[112, 105, 100]⟩) W := fun W => by rfl
            replace ho' : nums k (rd_T75 e.f3 0) ((⟨#[112, 105, 100]⟩ : ByteArray) :: [⟨#[115, 101, 115]⟩, ⟨#[97, 117, 105, 100]⟩, ⟨#[101, 120, 105, 116]⟩, ⟨#[97, 48]⟩, ⟨#[97, 49]⟩]) = some o' := ho'
            rw [nums] at ho'
            obtain ⟨⟨t1, t2⟩, ht, ho2⟩ := Option.bind_eq_some_iff.1 ho'
            have HT := Lib.hid ht
            have HO2 := Lib.hid ho2
            clear ht ho2 ho'
            go_wp2_with fail
            refine (sessions_number.calls k _ _ _ Ap cp _ _ t1 t2 _ HCp.out hcp HT.out).mono ?_
            rintro e2 wN ⟨rfl, hBe⟩
            have n7 : wN.heap[w.heap.size + 2 + 1]? = some (.cells #[.int .i64 0, .int .i64 0, .int .i64 0, .int .i64 0, .int .i64 0, .int .i64 0] 84 (0, 0)) := (hBe.block _ (by omega)).trans hb
            have n6 := (hBe.block _ (show w.heap.size + 2 < wr.heap.size by omega)).trans H6.out
            have n4 := (hBe.block _ (show w.heap.size + 1 < wr.heap.size by omega)).trans H4.out
            have k7 : wN.cell? ⟨w.heap.size + 2 + 1, 0, none⟩ = some (.int .i64 0) := by simp [World.cell?, n7]
            have z7 : wN.frozen? ⟨w.heap.size + 2 + 1, 0, none⟩ = false := by simp [World.frozen?, n7]
            have hBN : Below w.heap.size w wN := below_step HBw.out hBe
            have hsN : w.heap.size + 4 ≤ wN.heap.size := Nat.le_trans hsw hBe.size
            have m7 := KaTake.blk_set n7 0 (.int .i64 t1)
            have m6 := (heap_setCell_other wN ⟨w.heap.size + 2 + 1, 0, none⟩ (w.heap.size + 2) (.int .i64 t1) (qrQx5_1)).trans n6
            have m4 := (heap_setCell_other wN ⟨w.heap.size + 2 + 1, 0, none⟩ (w.heap.size + 1) (.int .i64 t1) (qrQx5_2)).trans n4
            have M7 := Lib.hid m7
            have M6 := Lib.hid m6
            have M4 := Lib.hid m4
            have HBN := Lib.hid hBN
            have N7 := Lib.hid n7
            have N4 := Lib.hid n4
            clear m7 m6 m4 n6 n4 hBN hBe n7
            cases t2
            · have q : o' = none := by
                have := HO2.out
                simpa using this.symm
              have qo : o = none := by rw [HO.out, q]; rfl
              have hr := HH.out
              rw [qo] at hr
              obtain rfl := Option.some.inj hr
              have u4 : ∀ i v, zc[i]? = some v → (wN.setCell ⟨w.heap.size + 2 + 1, 0, none⟩ (.int .i64 t1)).cell? ⟨w.heap.size + 1, i, none⟩ = some v := fun i v hv => by simp [World.cell?, M4.out, hv]
              have u0 := u4 0 (.int .i64 0) rfl
              have u1 := u4 1 (.int .i64 0) rfl
              have u2 := u4 2 (.int .i64 0) rfl
              have u3 := u4 3 (.int .i64 0) rfl
              have u44 := u4 4 (.int .i64 0) rfl
              have u5 := u4 5 (.int .i64 0) rfl
              have u6 := u4 6 (.string ⟨#[]⟩) rfl
              have u7 := u4 7 (.bool false) rfl
              have uf : ∀ i, (wN.setCell ⟨w.heap.size + 2 + 1, 0, none⟩ (.int .i64 t1)).frozen? ⟨w.heap.size + 1, i, none⟩ = false := fun i => by simp [World.frozen?, M4.out]
              clear u4
              go_wp2_with fail
              exact bodyPost_ret (results_ct rfl _ _ (w.heap.size + 1) 56 zc (0, 0) _ rfl (put8 _ _ _ _ _ _ _ _ M4.out) rfl rfl rfl) rfl ⟨rfl, below8 _ _ _ _ _ _ _ _ (HBN.out.setCell (p := ⟨w.heap.size + 2 + 1, _, none⟩) (qrQx5_0) _) (by omega)⟩
            · obtain ⟨o2, ho2, e2⟩ : ∃ o2, nums k (rd_T75 e.f3 0) [⟨#[115, 101, 115]⟩, ⟨#[97, 117, 105, 100]⟩, ⟨#[101, 120, 105, 116]⟩, ⟨#[97, 48]⟩, ⟨#[97, 49]⟩] = some o2 ∧ o' = o2.map (t1 :: ·) := by
                have := HO2.out
                rw [if_pos rfl] at this
                obtain ⟨o2, q1, q2⟩ := Option.bind_eq_some_iff.1 this
                exact ⟨o2, q1, (Option.some.inj q2).symm⟩
              have Q1 := Lib.hid ho2
              have Q2 := Lib.hid e2
              clear ho2 e2
              go_wp2_with fail
              go_roundw
              case rel => exact ⟨[t1], by simp, by simp, M7.out, M6.out, M4.out, HBN.out.setCell (p := ⟨w.heap.size + 2 + 1, 0, none⟩) (qrQx5_0) _, by simpa using hsN, o2, Q1.out, by rw [HO.out, Q2.out]; cases o2 <;> rfl⟩
              case measure => simp [intOf]
          · have hb : wr.heap[w.heap.size + 2 + 1]? = some (.cells #[.int .i64 x0, .int .i64 0, .int .i64 0, .int .i64 0, .int .i64 0, .int .i64 0] 84 (0, 0)) := HL.out
            have hidx : ∀ W : World, (Instr.index 85 (.agg #[.string ⟨#[112, 105, 100]⟩, .string ⟨#[115, 101, 115]⟩, .string ⟨#[97, 117, 105, 100]⟩, .string ⟨#[101, 120, 105, 116]⟩, .string ⟨#[97, 48]⟩, .string ⟨#[97, 49]⟩]) (.int .i64 1)).run Tryd.prog W = .ok (.string ⟨#[115, 101, 115]⟩) W := fun W => by rfl
            replace ho' : nums k (rd_T75 e.f3 0) ((⟨#[115, 101, 115]⟩ : ByteArray) :: [⟨#[97, 117, 105, 100]⟩, ⟨#[101, 120, 105, 116]⟩, ⟨#[97, 48]⟩, ⟨#[97, 49]⟩]) = some o' := ho'
            rw [nums] at ho'
            obtain ⟨⟨t1, t2⟩, ht, ho2⟩ := Option.bind_eq_some_iff.1 ho'
            have HT := Lib.hid ht
            have HO2 := Lib.hid ho2
            clear ht ho2 ho'
            go_wp2_with fail
            refine (sessions_number.calls k _ _ _ Ap cp _ _ t1 t2 _ HCp.out hcp HT.out).mono ?_
            rintro e2 wN ⟨rfl, hBe⟩
            have n7 : wN.heap[w.heap.size + 2 + 1]? = some (.cells #[.int .i64 x0, .int .i64 0, .int .i64 0, .int .i64 0, .int .i64 0, .int .i64 0] 84 (0, 0)) := (hBe.block _ (by omega)).trans hb
            have n6 := (hBe.block _ (show w.heap.size + 2 < wr.heap.size by omega)).trans H6.out
            have n4 := (hBe.block _ (show w.heap.size + 1 < wr.heap.size by omega)).trans H4.out
            have k7 : wN.cell? ⟨w.heap.size + 2 + 1, 1, none⟩ = some (.int .i64 0) := by simp [World.cell?, n7]
            have z7 : wN.frozen? ⟨w.heap.size + 2 + 1, 1, none⟩ = false := by simp [World.frozen?, n7]
            have hBN : Below w.heap.size w wN := below_step HBw.out hBe
            have hsN : w.heap.size + 4 ≤ wN.heap.size := Nat.le_trans hsw hBe.size
            have m7 := KaTake.blk_set n7 1 (.int .i64 t1)
            have m6 := (heap_setCell_other wN ⟨w.heap.size + 2 + 1, 1, none⟩ (w.heap.size + 2) (.int .i64 t1) (qrQx5_1)).trans n6
            have m4 := (heap_setCell_other wN ⟨w.heap.size + 2 + 1, 1, none⟩ (w.heap.size + 1) (.int .i64 t1) (qrQx5_2)).trans n4
            have M7 := Lib.hid m7
            have M6 := Lib.hid m6
            have M4 := Lib.hid m4
            have HBN := Lib.hid hBN
            have N7 := Lib.hid n7
            have N4 := Lib.hid n4
            clear m7 m6 m4 n6 n4 hBN hBe n7
            cases t2
            · have q : o' = none := by
                have := HO2.out
                simpa using this.symm
              have qo : o = none := by rw [HO.out, q]; rfl
              have hr := HH.out
              rw [qo] at hr
              obtain rfl := Option.some.inj hr
              have u4 : ∀ i v, zc[i]? = some v → (wN.setCell ⟨w.heap.size + 2 + 1, 1, none⟩ (.int .i64 t1)).cell? ⟨w.heap.size + 1, i, none⟩ = some v := fun i v hv => by simp [World.cell?, M4.out, hv]
              have u0 := u4 0 (.int .i64 0) rfl
              have u1 := u4 1 (.int .i64 0) rfl
              have u2 := u4 2 (.int .i64 0) rfl
              have u3 := u4 3 (.int .i64 0) rfl
              have u44 := u4 4 (.int .i64 0) rfl
              have u5 := u4 5 (.int .i64 0) rfl
              have u6 := u4 6 (.string ⟨#[]⟩) rfl
              have u7 := u4 7 (.bool false) rfl
              have uf : ∀ i, (wN.setCell ⟨w.heap.size + 2 + 1, 1, none⟩ (.int .i64 t1)).frozen? ⟨w.heap.size + 1, i, none⟩ = false := fun i => by simp [World.frozen?, M4.out]
              clear u4
              go_wp2_with fail
              exact bodyPost_ret (results_ct rfl _ _ (w.heap.size + 1) 56 zc (0, 0) _ rfl (put8 _ _ _ _ _ _ _ _ M4.out) rfl rfl rfl) rfl ⟨rfl, below8 _ _ _ _ _ _ _ _ (HBN.out.setCell (p := ⟨w.heap.size + 2 + 1, _, none⟩) (qrQx5_0) _) (by omega)⟩
            · obtain ⟨o2, ho2, e2⟩ : ∃ o2, nums k (rd_T75 e.f3 0) [⟨#[97, 117, 105, 100]⟩, ⟨#[101, 120, 105, 116]⟩, ⟨#[97, 48]⟩, ⟨#[97, 49]⟩] = some o2 ∧ o' = o2.map (t1 :: ·) := by
                have := HO2.out
                rw [if_pos rfl] at this
                obtain ⟨o2, q1, q2⟩ := Option.bind_eq_some_iff.1 this
                exact ⟨o2, q1, (Option.some.inj q2).symm⟩
              have Q1 := Lib.hid ho2
              have Q2 := Lib.hid e2
              clear ho2 e2
              go_wp2_with fail
              go_roundw
              case rel => exact ⟨[x0, t1], by simp, by simp, M7.out, M6.out, M4.out, HBN.out.setCell (p := ⟨w.heap.size + 2 + 1, 1, none⟩) (qrQx5_0) _, by simpa using hsN, o2, Q1.out, by rw [HO.out, Q2.out]; cases o2 <;> rfl⟩
              case measure => simp [intOf]
          · have hb : wr.heap[w.heap.size + 2 + 1]? = some (.cells #[.int .i64 x0, .int .i64 x1, .int .i64 0, .int .i64 0, .int .i64 0, .int .i64 0] 84 (0, 0)) := HL.out
            have hidx : ∀ W : World, (Instr.index 85 (.agg #[.string ⟨#[112, 105, 100]⟩, .string ⟨#[115, 101, 115]⟩, .string ⟨#[97, 117, 105, 100]⟩, .string ⟨#[101, 120, 105, 116]⟩, .string ⟨#[97, 48]⟩, .string ⟨#[97, 49]⟩]) (.int .i64 2)).run Tryd.prog W = .ok (.string ⟨#[97, 117, 105, 100]⟩) W := fun W => by rfl
            replace ho' : nums k (rd_T75 e.f3 0) ((⟨#[97, 117, 105, 100]⟩ : ByteArray) :: [⟨#[101, 120, 105, 116]⟩, ⟨#[97, 48]⟩, ⟨#[97, 49]⟩]) = some o' := ho'
            rw [nums] at ho'
            obtain ⟨⟨t1, t2⟩, ht, ho2⟩ := Option.bind_eq_some_iff.1 ho'
            have HT := Lib.hid ht
            have HO2 := Lib.hid ho2
            clear ht ho2 ho'
            go_wp2_with fail
            refine (sessions_number.calls k _ _ _ Ap cp _ _ t1 t2 _ HCp.out hcp HT.out).mono ?_
            rintro e2 wN ⟨rfl, hBe⟩
            have n7 : wN.heap[w.heap.size + 2 + 1]? = some (.cells #[.int .i64 x0, .int .i64 x1, .int .i64 0, .int .i64 0, .int .i64 0, .int .i64 0] 84 (0, 0)) := (hBe.block _ (by omega)).trans hb
            have n6 := (hBe.block _ (show w.heap.size + 2 < wr.heap.size by omega)).trans H6.out
            have n4 := (hBe.block _ (show w.heap.size + 1 < wr.heap.size by omega)).trans H4.out
            have k7 : wN.cell? ⟨w.heap.size + 2 + 1, 2, none⟩ = some (.int .i64 0) := by simp [World.cell?, n7]
            have z7 : wN.frozen? ⟨w.heap.size + 2 + 1, 2, none⟩ = false := by simp [World.frozen?, n7]
            have hBN : Below w.heap.size w wN := below_step HBw.out hBe
            have hsN : w.heap.size + 4 ≤ wN.heap.size := Nat.le_trans hsw hBe.size
            have m7 := KaTake.blk_set n7 2 (.int .i64 t1)
            have m6 := (heap_setCell_other wN ⟨w.heap.size + 2 + 1, 2, none⟩ (w.heap.size + 2) (.int .i64 t1) (qrQx5_1)).trans n6
            have m4 := (heap_setCell_other wN ⟨w.heap.size + 2 + 1, 2, none⟩ (w.heap.size + 1) (.int .i64 t1) (qrQx5_2)).trans n4
            have M7 := Lib.hid m7
            have M6 := Lib.hid m6
            have M4 := Lib.hid m4
            have HBN := Lib.hid hBN
            have N7 := Lib.hid n7
            have N4 := Lib.hid n4
            clear m7 m6 m4 n6 n4 hBN hBe n7
            cases t2
            · have q : o' = none := by
                have := HO2.out
                simpa using this.symm
              have qo : o = none := by rw [HO.out, q]; rfl
              have hr := HH.out
              rw [qo] at hr
              obtain rfl := Option.some.inj hr
              have u4 : ∀ i v, zc[i]? = some v → (wN.setCell ⟨w.heap.size + 2 + 1, 2, none⟩ (.int .i64 t1)).cell? ⟨w.heap.size + 1, i, none⟩ = some v := fun i v hv => by simp [World.cell?, M4.out, hv]
              have u0 := u4 0 (.int .i64 0) rfl
              have u1 := u4 1 (.int .i64 0) rfl
              have u2 := u4 2 (.int .i64 0) rfl
              have u3 := u4 3 (.int .i64 0) rfl
              have u44 := u4 4 (.int .i64 0) rfl
              have u5 := u4 5 (.int .i64 0) rfl
              have u6 := u4 6 (.string ⟨#[]⟩) rfl
              have u7 := u4 7 (.bool false) rfl
              have uf : ∀ i, (wN.setCell ⟨w.heap.size + 2 + 1, 2, none⟩ (.int .i64 t1)).frozen? ⟨w.heap.size + 1, i, none⟩ = false := fun i => by simp [World.frozen?, M4.out]
              clear u4
              go_wp2_with fail
              exact bodyPost_ret (results_ct rfl _ _ (w.heap.size + 1) 56 zc (0, 0) _ rfl (put8 _ _ _ _ _ _ _ _ M4.out) rfl rfl rfl) rfl ⟨rfl, below8 _ _ _ _ _ _ _ _ (HBN.out.setCell (p := ⟨w.heap.size + 2 + 1, _, none⟩) (qrQx5_0) _) (by omega)⟩
            · obtain ⟨o2, ho2, e2⟩ : ∃ o2, nums k (rd_T75 e.f3 0) [⟨#[101, 120, 105, 116]⟩, ⟨#[97, 48]⟩, ⟨#[97, 49]⟩] = some o2 ∧ o' = o2.map (t1 :: ·) := by
                have := HO2.out
                rw [if_pos rfl] at this
                obtain ⟨o2, q1, q2⟩ := Option.bind_eq_some_iff.1 this
                exact ⟨o2, q1, (Option.some.inj q2).symm⟩
              have Q1 := Lib.hid ho2
              have Q2 := Lib.hid e2
              clear ho2 e2
              go_wp2_with fail
              go_roundw
              case rel => exact ⟨[x0, x1, t1], by simp, by simp, M7.out, M6.out, M4.out, HBN.out.setCell (p := ⟨w.heap.size + 2 + 1, 2, none⟩) (qrQx5_0) _, by simpa using hsN, o2, Q1.out, by rw [HO.out, Q2.out]; cases o2 <;> rfl⟩
              case measure => simp [intOf]
          · have hb : wr.heap[w.heap.size + 2 + 1]? = some (.cells #[.int .i64 x0, .int .i64 x1, .int .i64 x2, .int .i64 0, .int .i64 0, .int .i64 0] 84 (0, 0)) := HL.out
            have hidx : ∀ W : World, (Instr.index 85 (.agg #[.string ⟨#[112, 105, 100]⟩, .string ⟨#[115, 101, 115]⟩, .string ⟨#[97, 117, 105, 100]⟩, .string ⟨#[101, 120, 105, 116]⟩, .string ⟨#[97, 48]⟩, .string ⟨#[97, 49]⟩]) (.int .i64 3)).run Tryd.prog W = .ok (.string ⟨#[101, 120, 105, 116]⟩) W := fun W => by rfl
            replace ho' : nums k (rd_T75 e.f3 0) ((⟨#[101, 120, 105, 116]⟩ : ByteArray) :: [⟨#[97, 48]⟩, ⟨#[97, 49]⟩]) = some o' := ho'
            rw [nums] at ho'
            obtain ⟨⟨t1, t2⟩, ht, ho2⟩ := Option.bind_eq_some_iff.1 ho'
            have HT := Lib.hid ht
            have HO2 := Lib.hid ho2
            clear ht ho2 ho'
            go_wp2_with fail
            refine (sessions_number.calls k _ _ _ Ap cp _ _ t1 t2 _ HCp.out hcp HT.out).mono ?_
            rintro e2 wN ⟨rfl, hBe⟩
            have n7 : wN.heap[w.heap.size + 2 + 1]? = some (.cells #[.int .i64 x0, .int .i64 x1, .int .i64 x2, .int .i64 0, .int .i64 0, .int .i64 0] 84 (0, 0)) := (hBe.block _ (by omega)).trans hb
            have n6 := (hBe.block _ (show w.heap.size + 2 < wr.heap.size by omega)).trans H6.out
            have n4 := (hBe.block _ (show w.heap.size + 1 < wr.heap.size by omega)).trans H4.out
            have k7 : wN.cell? ⟨w.heap.size + 2 + 1, 3, none⟩ = some (.int .i64 0) := by simp [World.cell?, n7]
            have z7 : wN.frozen? ⟨w.heap.size + 2 + 1, 3, none⟩ = false := by simp [World.frozen?, n7]
            have hBN : Below w.heap.size w wN := below_step HBw.out hBe
            have hsN : w.heap.size + 4 ≤ wN.heap.size := Nat.le_trans hsw hBe.size
            have m7 := KaTake.blk_set n7 3 (.int .i64 t1)
            have m6 := (heap_setCell_other wN ⟨w.heap.size + 2 + 1, 3, none⟩ (w.heap.size + 2) (.int .i64 t1) (qrQx5_1)).trans n6
            have m4 := (heap_setCell_other wN ⟨w.heap.size + 2 + 1, 3, none⟩ (w.heap.size + 1) (.int .i64 t1) (qrQx5_2)).trans n4
            have M7 := Lib.hid m7
            have M6 := Lib.hid m6
            have M4 := Lib.hid m4
            have HBN := Lib.hid hBN
            have N7 := Lib.hid n7
            have N4 := Lib.hid n4
            clear m7 m6 m4 n6 n4 hBN hBe n7
            cases t2
            · have q : o' = none := by
                have := HO2.out
                simpa using this.symm
              have qo : o = none := by rw [HO.out, q]; rfl
              have hr := HH.out
              rw [qo] at hr
              obtain rfl := Option.some.inj hr
              have u4 : ∀ i v, zc[i]? = some v → (wN.setCell ⟨w.heap.size + 2 + 1, 3, none⟩ (.int .i64 t1)).cell? ⟨w.heap.size + 1, i, none⟩ = some v := fun i v hv => by simp [World.cell?, M4.out, hv]
              have u0 := u4 0 (.int .i64 0) rfl
              have u1 := u4 1 (.int .i64 0) rfl
              have u2 := u4 2 (.int .i64 0) rfl
              have u3 := u4 3 (.int .i64 0) rfl
              have u44 := u4 4 (.int .i64 0) rfl
              have u5 := u4 5 (.int .i64 0) rfl
              have u6 := u4 6 (.string ⟨#[]⟩) rfl
              have u7 := u4 7 (.bool false) rfl
              have uf : ∀ i, (wN.setCell ⟨w.heap.size + 2 + 1, 3, none⟩ (.int .i64 t1)).frozen? ⟨w.heap.size + 1, i, none⟩ = false := fun i => by simp [World.frozen?, M4.out]
              clear u4
              go_wp2_with fail
              exact bodyPost_ret (results_ct rfl _ _ (w.heap.size + 1) 56 zc (0, 0) _ rfl (put8 _ _ _ _ _ _ _ _ M4.out) rfl rfl rfl) rfl ⟨rfl, below8 _ _ _ _ _ _ _ _ (HBN.out.setCell (p := ⟨w.heap.size + 2 + 1, _, none⟩) (qrQx5_0) _) (by omega)⟩
            · obtain ⟨o2, ho2, e2⟩ : ∃ o2, nums k (rd_T75 e.f3 0) [⟨#[97, 48]⟩, ⟨#[97, 49]⟩] = some o2 ∧ o' = o2.map (t1 :: ·) := by
                have := HO2.out
                rw [if_pos rfl] at this
                obtain ⟨o2, q1, q2⟩ := Option.bind_eq_some_iff.1 this
                exact ⟨o2, q1, (Option.some.inj q2).symm⟩
              have Q1 := Lib.hid ho2
              have Q2 := Lib.hid e2
              clear ho2 e2
              go_wp2_with fail
              go_roundw
              case rel => exact ⟨[x0, x1, x2, t1], by simp, by simp, M7.out, M6.out, M4.out, HBN.out.setCell (p := ⟨w.heap.size + 2 + 1, 3, none⟩) (qrQx5_0) _, by simpa using hsN, o2, Q1.out, by rw [HO.out, Q2.out]; cases o2 <;> rfl⟩
              case measure => simp [intOf]
          · have hb : wr.heap[w.heap.size + 2 + 1]? = some (.cells #[.int .i64 x0, .int .i64 x1, .int .i64 x2, .int .i64 x3, .int .i64 0, .int .i64 0] 84 (0, 0)) := HL.out
            have hidx : ∀ W : World, (Instr.index 85 (.agg #[.string ⟨#[112, 105, 100]⟩, .string ⟨#[115, 101, 115]⟩, .string ⟨#[97, 117, 105, 100]⟩, .string ⟨#[101, 120, 105, 116]⟩, .string ⟨#[97, 48]⟩, .string ⟨#[97, 49]⟩]) (.int .i64 4)).run Tryd.prog W = .ok (.string ⟨#[97, 48]⟩) W := fun W => by rfl
            replace ho' : nums k (rd_T75 e.f3 0) ((⟨#[97, 48]⟩ : ByteArray) :: [⟨#[97, 49]⟩]) = some o' := ho'
            rw [nums] at ho'
            obtain ⟨⟨t1, t2⟩, ht, ho2⟩ := Option.bind_eq_some_iff.1 ho'
            have HT := Lib.hid ht
            have HO2 := Lib.hid ho2
            clear ht ho2 ho'
            go_wp2_with fail
            refine (sessions_number.calls k _ _ _ Ap cp _ _ t1 t2 _ HCp.out hcp HT.out).mono ?_
            rintro e2 wN ⟨rfl, hBe⟩
            have n7 : wN.heap[w.heap.size + 2 + 1]? = some (.cells #[.int .i64 x0, .int .i64 x1, .int .i64 x2, .int .i64 x3, .int .i64 0, .int .i64 0] 84 (0, 0)) := (hBe.block _ (by omega)).trans hb
            have n6 := (hBe.block _ (show w.heap.size + 2 < wr.heap.size by omega)).trans H6.out
            have n4 := (hBe.block _ (show w.heap.size + 1 < wr.heap.size by omega)).trans H4.out
            have k7 : wN.cell? ⟨w.heap.size + 2 + 1, 4, none⟩ = some (.int .i64 0) := by simp [World.cell?, n7]
            have z7 : wN.frozen? ⟨w.heap.size + 2 + 1, 4, none⟩ = false := by simp [World.frozen?, n7]
            have hBN : Below w.heap.size w wN := below_step HBw.out hBe
            have hsN : w.heap.size + 4 ≤ wN.heap.size := Nat.le_trans hsw hBe.size
            have m7 := KaTake.blk_set n7 4 (.int .i64 t1)
            have m6 := (heap_setCell_other wN ⟨w.heap.size + 2 + 1, 4, none⟩ (w.heap.size + 2) (.int .i64 t1) (qrQx5_1)).trans n6
            have m4 := (heap_setCell_other wN ⟨w.heap.size + 2 + 1, 4, none⟩ (w.heap.size + 1) (.int .i64 t1) (qrQx5_2)).trans n4
            have M7 := Lib.hid m7
            have M6 := Lib.hid m6
            have M4 := Lib.hid m4
            have HBN := Lib.hid hBN
            have N7 := Lib.hid n7
            have N4 := Lib.hid n4
            clear m7 m6 m4 n6 n4 hBN hBe n7
            cases t2
            · have q : o' = none := by
                have := HO2.out
                simpa using this.symm
              have qo : o = none := by rw [HO.out, q]; rfl
              have hr := HH.out
              rw [qo] at hr
              obtain rfl := Option.some.inj hr
              have u4 : ∀ i v, zc[i]? = some v → (wN.setCell ⟨w.heap.size + 2 + 1, 4, none⟩ (.int .i64 t1)).cell? ⟨w.heap.size + 1, i, none⟩ = some v := fun i v hv => by simp [World.cell?, M4.out, hv]
              have u0 := u4 0 (.int .i64 0) rfl
              have u1 := u4 1 (.int .i64 0) rfl
              have u2 := u4 2 (.int .i64 0) rfl
              have u3 := u4 3 (.int .i64 0) rfl
              have u44 := u4 4 (.int .i64 0) rfl
              have u5 := u4 5 (.int .i64 0) rfl
              have u6 := u4 6 (.string ⟨#[]⟩) rfl
              have u7 := u4 7 (.bool false) rfl
              have uf : ∀ i, (wN.setCell ⟨w.heap.size + 2 + 1, 4, none⟩ (.int .i64 t1)).frozen? ⟨w.heap.size + 1, i, none⟩ = false := fun i => by simp [World.frozen?, M4.out]
              clear u4
              go_wp2_with fail
              exact bodyPost_ret (results_ct rfl _ _ (w.heap.size + 1) 56 zc (0, 0) _ rfl (put8 _ _ _ _ _ _ _ _ M4.out) rfl rfl rfl) rfl ⟨rfl, below8 _ _ _ _ _ _ _ _ (HBN.out.setCell (p := ⟨w.heap.size + 2 + 1, _, none⟩) (qrQx5_0) _) (by omega)⟩
            · obtain ⟨o2, ho2, e2⟩ : ∃ o2, nums k (rd_T75 e.f3 0) [⟨#[97, 49]⟩] = some o2 ∧ o' = o2.map (t1 :: ·) := by
                have := HO2.out
                rw [if_pos rfl] at this
                obtain ⟨o2, q1, q2⟩ := Option.bind_eq_some_iff.1 this
                exact ⟨o2, q1, (Option.some.inj q2).symm⟩
              have Q1 := Lib.hid ho2
              have Q2 := Lib.hid e2
              clear ho2 e2
              go_wp2_with fail
              go_roundw
              case rel => exact ⟨[x0, x1, x2, x3, t1], by simp, by simp, M7.out, M6.out, M4.out, HBN.out.setCell (p := ⟨w.heap.size + 2 + 1, 4, none⟩) (qrQx5_0) _, by simpa using hsN, o2, Q1.out, by rw [HO.out, Q2.out]; cases o2 <;> rfl⟩
              case measure => simp [intOf]
          · have hb : wr.heap[w.heap.size + 2 + 1]? = some (.cells #[.int .i64 x0, .int .i64 x1, .int .i64 x2, .int .i64 x3, .int .i64 x4, .int .i64 0] 84 (0, 0)) := HL.out
            have hidx : ∀ W : World, (Instr.index 85 (.agg #[.string ⟨#[112, 105, 100]⟩, .string ⟨#[115, 101, 115]⟩, .string ⟨#[97, 117, 105, 100]⟩, .string ⟨#[101, 120, 105, 116]⟩, .string ⟨#[97, 48]⟩, .string ⟨#[97, 49]⟩]) (.int .i64 5)).run Tryd.prog W = .ok (.string ⟨#[97, 49]⟩) W := fun W => by rfl
            replace ho' : nums k (rd_T75 e.f3 0) ((⟨#[97, 49]⟩ : ByteArray) :: []) = some o' := ho'
            rw [nums] at ho'
            obtain ⟨⟨t1, t2⟩, ht, ho2⟩ := Option.bind_eq_some_iff.1 ho'
            have HT := Lib.hid ht
            have HO2 := Lib.hid ho2
            clear ht ho2 ho'
            go_wp2_with fail
            refine (sessions_number.calls k _ _ _ Ap cp _ _ t1 t2 _ HCp.out hcp HT.out).mono ?_
            rintro e2 wN ⟨rfl, hBe⟩
            have n7 : wN.heap[w.heap.size + 2 + 1]? = some (.cells #[.int .i64 x0, .int .i64 x1, .int .i64 x2, .int .i64 x3, .int .i64 x4, .int .i64 0] 84 (0, 0)) := (hBe.block _ (by omega)).trans hb
            have n6 := (hBe.block _ (show w.heap.size + 2 < wr.heap.size by omega)).trans H6.out
            have n4 := (hBe.block _ (show w.heap.size + 1 < wr.heap.size by omega)).trans H4.out
            have k7 : wN.cell? ⟨w.heap.size + 2 + 1, 5, none⟩ = some (.int .i64 0) := by simp [World.cell?, n7]
            have z7 : wN.frozen? ⟨w.heap.size + 2 + 1, 5, none⟩ = false := by simp [World.frozen?, n7]
            have hBN : Below w.heap.size w wN := below_step HBw.out hBe
            have hsN : w.heap.size + 4 ≤ wN.heap.size := Nat.le_trans hsw hBe.size
            have m7 := KaTake.blk_set n7 5 (.int .i64 t1)
            have m6 := (heap_setCell_other wN ⟨w.heap.size + 2 + 1, 5, none⟩ (w.heap.size + 2) (.int .i64 t1) (qrQx5_1)).trans n6
            have m4 := (heap_setCell_other wN ⟨w.heap.size + 2 + 1, 5, none⟩ (w.heap.size + 1) (.int .i64 t1) (qrQx5_2)).trans n4
            have M7 := Lib.hid m7
            have M6 := Lib.hid m6
            have M4 := Lib.hid m4
            have HBN := Lib.hid hBN
            have N7 := Lib.hid n7
            have N4 := Lib.hid n4
            clear m7 m6 m4 n6 n4 hBN hBe n7
            cases t2
            · have q : o' = none := by
                have := HO2.out
                simpa using this.symm
              have qo : o = none := by rw [HO.out, q]; rfl
              have hr := HH.out
              rw [qo] at hr
              obtain rfl := Option.some.inj hr
              have u4 : ∀ i v, zc[i]? = some v → (wN.setCell ⟨w.heap.size + 2 + 1, 5, none⟩ (.int .i64 t1)).cell? ⟨w.heap.size + 1, i, none⟩ = some v := fun i v hv => by simp [World.cell?, M4.out, hv]
              have u0 := u4 0 (.int .i64 0) rfl
              have u1 := u4 1 (.int .i64 0) rfl
              have u2 := u4 2 (.int .i64 0) rfl
              have u3 := u4 3 (.int .i64 0) rfl
              have u44 := u4 4 (.int .i64 0) rfl
              have u5 := u4 5 (.int .i64 0) rfl
              have u6 := u4 6 (.string ⟨#[]⟩) rfl
              have u7 := u4 7 (.bool false) rfl
              have uf : ∀ i, (wN.setCell ⟨w.heap.size + 2 + 1, 5, none⟩ (.int .i64 t1)).frozen? ⟨w.heap.size + 1, i, none⟩ = false := fun i => by simp [World.frozen?, M4.out]
              clear u4
              go_wp2_with fail
              exact bodyPost_ret (results_ct rfl _ _ (w.heap.size + 1) 56 zc (0, 0) _ rfl (put8 _ _ _ _ _ _ _ _ M4.out) rfl rfl rfl) rfl ⟨rfl, below8 _ _ _ _ _ _ _ _ (HBN.out.setCell (p := ⟨w.heap.size + 2 + 1, _, none⟩) (qrQx5_0) _) (by omega)⟩
            · obtain ⟨o2, ho2, e2⟩ : ∃ o2, nums k (rd_T75 e.f3 0) [] = some o2 ∧ o' = o2.map (t1 :: ·) := by
                have := HO2.out
                rw [if_pos rfl] at this
                obtain ⟨o2, q1, q2⟩ := Option.bind_eq_some_iff.1 this
                exact ⟨o2, q1, (Option.some.inj q2).symm⟩
              have Q1 := Lib.hid ho2
              have Q2 := Lib.hid e2
              clear ho2 e2
              go_wp2_with fail
              go_roundw
              case rel => exact ⟨[x0, x1, x2, x3, x4, t1], by simp, by simp, M7.out, M6.out, M4.out, HBN.out.setCell (p := ⟨w.heap.size + 2 + 1, 5, none⟩) (qrQx5_0) _, by simpa using hsN, o2, Q1.out, by rw [HO.out, Q2.out]; cases o2 <;> rfl⟩
              case measure => simp [intOf]
          · have hb : wr.heap[w.heap.size + 2 + 1]? = some (.cells #[.int .i64 x0, .int .i64 x1, .int .i64 x2, .int .i64 x3, .int .i64 x4, .int .i64 x5] 84 (0, 0)) := HL.out
            have q : o' = some [] := (Option.some.inj (show some (some []) = some o' from ho')).symm
            have qo : o = some [x0, x1, x2, x3, x4, x5] := by rw [HO.out, q]; rfl
            have hr := HH.out
            rw [qo] at hr
            obtain ⟨⟨c1, c2⟩, hc1, hr⟩ := Option.bind_eq_some_iff.1 hr
            obtain ⟨⟨s1, s2⟩, hs1, hr⟩ := Option.bind_eq_some_iff.1 hr
            have HT := Lib.hid hc1
            have HS := Lib.hid hs1
            have HR := Lib.hid hr
            clear hc1 hs1 hr q qo ho'
            go_wp2_with fail
            refine (sessions_text.calls k _ _ _ Ap cp _ _ c1 c2 _ HCp.out hcp HT.out).mono ?_
            rintro e2 wA ⟨rfl, hBa⟩
            have HCa := Lib.hid (Kd.C_below HCp.out hBa)
            replace r0 := cell_later hBa r0
            replace r1 := cell_later hBa r1
            replace r2 := cell_later hBa r2
            replace r3 := cell_later hBa r3
            have b7 := (hBa.block _ (show w.heap.size + 2 + 1 < wr.heap.size by omega)).trans hb
            have b4 := (hBa.block _ (show w.heap.size + 1 < wr.heap.size by omega)).trans H4.out
            have hBA : Below w.heap.size w wA := below_step HBw.out hBa
            have hsA : w.heap.size + 4 ≤ wA.heap.size := Nat.le_trans hsw hBa.size
            have B7 := Lib.hid b7
            have B4 := Lib.hid b4
            have HBA := Lib.hid hBA
            clear b7 b4 hb hBA hBa
            go_wp2_with fail
            refine (sessions_text.calls k _ _ _ Ap cp _ _ s1 s2 _ HCa.out hcp HS.out).mono ?_
            rintro e2 wB ⟨rfl, hBb⟩
            have n7 := (hBb.block _ (show w.heap.size + 2 + 1 < wA.heap.size by omega)).trans B7.out
            have n4 := (hBb.block _ (show w.heap.size + 1 < wA.heap.size by omega)).trans B4.out
            have hBB : Below w.heap.size w wB := below_step HBA.out hBb
            have N4 := Lib.hid n4
            have HBB := Lib.hid hBB
            have t0 : wB.cell? ⟨w.heap.size + 2 + 1, 0, none⟩ = some (.int .i64 x0) := by simp [World.cell?, n7]
            have t1 : wB.cell? ⟨w.heap.size + 2 + 1, 1, none⟩ = some (.int .i64 x1) := by simp [World.cell?, n7]
            have t2 : wB.cell? ⟨w.heap.size + 2 + 1, 2, none⟩ = some (.int .i64 x2) := by simp [World.cell?, n7]
            have t3 : wB.cell? ⟨w.heap.size + 2 + 1, 3, none⟩ = some (.int .i64 x3) := by simp [World.cell?, n7]
            have t4 : wB.cell? ⟨w.heap.size + 2 + 1, 4, none⟩ = some (.int .i64 x4) := by simp [World.cell?, n7]
            have t5 : wB.cell? ⟨w.heap.size + 2 + 1, 5, none⟩ = some (.int .i64 x5) := by simp [World.cell?, n7]
            have u4 : ∀ i v, zc[i]? = some v → wB.cell? ⟨w.heap.size + 1, i, none⟩ = some v := fun i v hv => by simp [World.cell?, n4, hv]
            have u0 := u4 0 (.int .i64 0) rfl
            have u1 := u4 1 (.int .i64 0) rfl
            have u2 := u4 2 (.int .i64 0) rfl
            have u3 := u4 3 (.int .i64 0) rfl
            have u44 := u4 4 (.int .i64 0) rfl
            have u5 := u4 5 (.int .i64 0) rfl
            have u6 := u4 6 (.string ⟨#[]⟩) rfl
            have u7 := u4 7 (.bool false) rfl
            have uf : ∀ i, wB.frozen? ⟨w.heap.size + 1, i, none⟩ = false := fun i => by simp [World.frozen?, n4]
            clear u4 n4 n7 hBB hBb
            have hr := HR.out
            cases c2
            · rw [if_pos rfl] at hr
              obtain rfl := Option.some.inj hr
              go_wp2_with fail
              exact bodyPost_ret (results_ct rfl _ _ (w.heap.size + 1) 56 zc (0, 0) _ rfl (put8 _ _ _ _ _ _ _ _ N4.out) rfl rfl rfl) rfl ⟨rfl, below8 _ _ _ _ _ _ _ _ HBB.out (by omega)⟩
            · rw [if_neg (by simp)] at hr
              cases s2
              · rw [if_pos rfl] at hr
                obtain rfl := Option.some.inj hr
                go_wp2_with fail
                exact bodyPost_ret (results_ct rfl _ _ (w.heap.size + 1) 56 zc (0, 0) _ rfl (put8 _ _ _ _ _ _ _ _ N4.out) rfl rfl rfl) rfl ⟨rfl, below8 _ _ _ _ _ _ _ _ HBB.out (by omega)⟩
              · rw [if_neg (by simp)] at hr
                obtain rfl := Option.some.inj hr
                go_wp2_with fail
                exact bodyPost_ret (results_ct rfl _ _ (w.heap.size + 1) 56 #[.int .i64 x0, .int .i64 x1, .int .i64 x2, .int .i64 x3, .int .i64 x4, .int .i64 x5, .string c1, .bool (s1.toList == [121, 101, 115])] (0, 0) _ rfl (put8 _ _ _ _ _ _ _ _ N4.out) rfl rfl rfl) rfl ⟨rfl, below8 _ _ _ _ _ _ _ _ HBB.out (by omega)⟩
          · simp at hvs
      · rw [if_pos h3] at h
        obtain rfl := Option.some.inj h
        have e3 : ((rd_T75 e.f3 0).f0 != 1300) = true := by simpa using h3
        clear h1
        go_wp2_with fail
        exact bodyPost_ret (results_ct rfl _ _ (w.heap.size + 1) 56 zc (0, 0) _ rfl (put8 _ _ _ _ _ _ _ _ HB4.out) rfl rfl rfl) rfl ⟨rfl, below8 _ _ _ _ _ _ _ _ HB.out (by omega)⟩
  · rw [if_pos h1] at h
    obtain rfl := Option.some.inj h
    have e1 : (e.f0 != boot) = true := by simpa using h1
    go_wp2_with fail
    exact bodyPost_ret (results_ct rfl _ _ (w.heap.size + 1) 56 zc (0, 0) _ rfl (put8 _ _ _ _ _ _ _ _ HB4.out) rfl rfl rfl) rfl ⟨rfl, below8 _ _ _ _ _ _ _ _ HB.out (by omega)⟩
end KaRead
namespace KaOf
open Go.RowKit Go.Proofs.YtjgehecnamadcaaDoor.KaMap Go.Proofs.YtjgehecnamadcaaDoor.KaSes Go.Proofs.YtjgehecnamadcaaDoor.KaTake KaRead
abbrev E := S34
/-- What the events leave. -/
def runs (k : Nat) (boot : Int) : List E → List Core → Option (List Core)
  | [], l => some l
  | e :: es, l => (read k e boot).bind fun r => runs k boot es (if r.2 = true then take r.1 e.f1 l else l)
theorem runs_snoc (k : Nat) (boot : Int) (e : E) : ∀ (es : List E) (l : List Core), runs k boot (es ++ [e]) l = (runs k boot es l).bind fun l' => (read k e boot).bind fun r => some (if r.2 = true then take r.1 e.f1 l' else l')
  | [], l => by simp [runs]
  | x :: es, l => by
    simp only [List.cons_append, runs, Option.bind_assoc]
    congr 1
    funext r
    exact runs_snoc k boot e es _
theorem runs_front (k : Nat) (boot : Int) : ∀ (es fs : List E) (l : List Core), runs k boot (es ++ fs) l = (runs k boot es l).bind fun l' => runs k boot fs l'
  | [], fs, l => by simp [runs]
  | x :: es, fs, l => by
    simp only [List.cons_append, runs, Option.bind_assoc]
    congr 1
    funext r
    exact runs_front k boot es fs _
theorem St.kept {w w' : World} {m : Nat} {L : List Ses} (h : St w m L) (hb : ∀ k, k < w.heap.size → w'.heap[k]? = w.heap[k]?) : St w' m L := by
  obtain ⟨h1, h2, h3⟩ := h
  refine ⟨IsMap.move h1 (hb _ (IsMap.lt h1)), fun c hc => ?_, h3⟩
  have := (h2 c hc).lt
  exact (h2 c hc).move (hb _ this.1) (hb _ this.2.1) (hb _ this.2.2)
theorem below_of {w w1 w2 : World} {B : Nat} {S : Nat → Prop} (h : Below B w w1) (hB : B ≤ w1.heap.size) (hk : Kp w1 w2 S) (hs : ∀ k, S k → B ≤ k) (hm : Same w1 w2) : Below B w w2 :=
  ⟨hm.1.trans h.os, hm.2.1.trans h.tape, hm.2.2.trans h.output, Nat.le_trans h.size hk.1, fun k hlt => (hk.2 k (by omega) (fun hS => by have := hs k hS; omega)).trans (h.block k hlt)⟩
abbrev R := S31
def srt (l : List Int) : List Int := l.mergeSort fun x y => decide (x ≤ y)
theorem srt_perm {a b : List Int} (h : a.Perm b) : srt a = srt b := by
  have t1 : ∀ a b c : Int, decide (a ≤ b) = true → decide (b ≤ c) = true → decide (a ≤ c) = true := by
    intro a b c h1 h2
    simp only [decide_eq_true_eq] at h1 h2 ⊢
    omega
  have t2 : ∀ a b : Int, (decide (a ≤ b) || decide (b ≤ a)) = true := by
    intro a b
    simp only [Bool.or_eq_true, decide_eq_true_eq]
    omega
  refine List.Perm.eq_of_pairwise (le := fun a b => decide (a ≤ b) = true) (fun a b _ _ h1 h2 => ?_) (List.pairwise_mergeSort t1 t2 a) (List.pairwise_mergeSort t1 t2 b) ((List.mergeSort_perm a _).trans (h.trans (List.mergeSort_perm b _).symm))
  simp only [decide_eq_true_eq] at h1 h2
  omega
theorem srt_mem {l : List Int} {x : Int} : x ∈ srt l ↔ x ∈ l := List.mem_mergeSort
theorem srt_nodup {l : List Int} (h : l.Nodup) : (srt l).Nodup := (List.mergeSort_perm l _).nodup_iff.2 h
theorem srt_length (l : List Int) : (srt l).length = l.length := List.length_mergeSort l
/-- A number that fits its kind. -/
def w64 (k : Int) : Bool := (Lit.int .i64 k).wf
/-- What is asked of the sessions, so that their sets can be told in order. -/
def fit (c : Core) : Bool := w64 c.id && c.ps.all w64 && c.qs.all w64 && decide (c.ps.length ≤ 1073741824) && decide (c.qs.length ≤ 1073741824)
def fits (cs : List Core) : Bool := cs.all fit && decide (cs.length ≤ 1073741824)
theorem fit_of {c : Core} (h : fit c = true) : KaKeys.wf c.id ∧ (∀ k ∈ c.ps, KaKeys.wf k) ∧ (∀ k ∈ c.qs, KaKeys.wf k) ∧ c.ps.length ≤ 1073741824 ∧ c.qs.length ≤ 1073741824 := by
  unfold fit at h
  simp only [Bool.and_eq_true, List.all_eq_true, decide_eq_true_eq] at h
  exact ⟨h.1.1.1.1, fun k hk => h.1.1.1.2 k hk, fun k hk => h.1.1.2 k hk, h.1.2, h.2⟩
theorem fits_of {cs : List Core} (h : fits cs = true) : (∀ c ∈ cs, fit c = true) ∧ cs.length ≤ 1073741824 := by
  unfold fits at h
  simpa only [Bool.and_eq_true, List.all_eq_true, decide_eq_true_eq] using h
def stOf (ended : Bool) (qs : List Int) : Int := if qs = [] then 2 else if ended = true then 3 else 1
/-- A session as it is told. -/
def fin (ended : Bool) (c : Core) : R := ⟨c.id, c.au, c.fi, c.la, c.ev, c.fa, stOf ended c.qs, srt c.ps, srt c.qs⟩
def none0 : Core := ⟨0, 0, 0, 0, 0, 0, [], []⟩
def look (cs : List Core) (id : Int) : Core := (cs.find? fun c => decide (c.id = id)).getD none0
theorem look_at {cs : List Core} (hn : (cs.map (·.id)).Nodup) {c : Core} (hc : c ∈ cs) : look cs c.id = c := by
  unfold look
  induction cs with
  | nil => cases hc
  | cons a l ih =>
    simp only [List.map_cons, List.nodup_cons] at hn
    rw [List.find?_cons]
    rcases List.mem_cons.1 hc with rfl | h
    · simp
    · have hne : ¬ a.id = c.id := fun e => hn.1 (e ▸ List.mem_map.2 ⟨c, h, rfl⟩)
      simp only [hne, decide_false]
      exact ih hn.2 h
def outs (ended : Bool) (cs : List Core) : List R := (srt (cs.map (·.id))).map fun id => fin ended (look cs id)
theorem wr_j {j n : Nat} (h : j < n) (hn : n ≤ 1073741824) : wrap64 ((j : Int) + 1) = (j : Int) + 1 := by unfold wrap64; omega
theorem ms_w {j n : Nat} (h : j < n) (hn : n ≤ 1073741824) : n - (intOf (Value.int .i64 (wrap64 ((j : Int) + 1)))).toNat < n - (intOf (Value.int .i64 (j : Int))).toNat := by
  rw [wr_j h hn]
  simp only [intOf]
  omega
theorem vl_w {j n : Nat} (h : j < n) (hn : n ≤ 1073741824) : Value.int .i64 (wrap64 ((j : Int) + 1)) = Value.int .i64 ((j + 1 : Nat) : Int) := by
  rw [wr_j h hn]
  rfl
theorem infoR : (Tryd.prog.info? 31).map (fun i => (i.zero, i.size, i.bytes)) = some (some (.agg #[.int .i64 0, .int .i64 0, .int .i64 0, .int .i64 0, .int .i64 0, .int .i64 0, .int .i64 0, .slice none 0 0, .slice none 0 0]), 9, 104) := by kernel_rfl
/-- Between the rounds of the second loop: those not yet told stand as they were. -/
structure Two (w W : World) (L : List Ses) (ids : List Int) (M0 M : Nat) (A : Option Addr) (cap j : Nat) (ended : Bool) (v : Value) : Prop where
  bel : Below w.heap.size w W
  sz : M ≤ W.heap.size
  box : W.heap[w.heap.size + 1]? = some (.cells #[.map (some w.heap.size)] 54 (0, 0))
  map : IsMap W w.heap.size (L.map (·.id)) (L.map (·.ptr))
  left : ∀ c ∈ L, c.id ∉ ids.take j → One W c
  row : (Kd.int .i64).R 3 W w.heap.size (fun k => M0 ≤ k ∧ k < M) (.slice A ids.length cap) ids
  out : Kd.S k31 31 W w.heap.size (fun k => M ≤ k) v ((ids.take j).map fun id => fin ended (look (L.map core) id))
/-- A step that touches new blocks and one session's block alone. -/
theorem Two.step {w W W' : World} {L : List Ses} {ids : List Int} {M0 M : Nat} {A : Option Addr} {cap j j' : Nat} {ended : Bool} {v v' : Value} {c : Ses} (h : Two w W L ids M0 M A cap j ended v)
    (hA : Apart w.heap.size L) (hlow : ∀ c ∈ L, ∀ k ∈ c.foot, w.heap.size + 2 ≤ k ∧ k < M0) (hM : w.heap.size + 2 ≤ M0 ∧ M0 ≤ M) (hc : c ∈ L) (hj : j ≤ j') (hcj : c.id ∈ ids.take j')
    (hsz : W.heap.size ≤ W'.heap.size) (hoff : ∀ k, k < M → k ≠ c.b → W'.heap[k]? = W.heap[k]?) (hsm : Same W W')
    (hout : Kd.S k31 31 W' w.heap.size (fun k => M ≤ k) v' ((ids.take j').map fun id => fin ended (look (L.map core) id))) : Two w W' L ids M0 M A cap j' ended v' := by
  have hcb := hlow c hc c.b (by simp [Ses.foot])
  have hsz0 := h.bel.size
  have hszM := h.sz
  refine ⟨⟨hsm.1.trans h.bel.os, hsm.2.1.trans h.bel.tape, hsm.2.2.trans h.bel.output, Nat.le_trans hsz0 hsz, fun k hk => (hoff k (by omega) (by omega)).trans (h.bel.block k hk)⟩, by omega, (hoff _ (by omega) (by omega)).trans h.box, IsMap.move h.map (hoff _ (by omega) (by omega)), fun d hd hid => ?_, ?_, hout⟩
  · have hne : d ≠ c := fun e => hid (e ▸ hcj)
    obtain ⟨i1, h1, rfl⟩ := List.mem_iff_getElem.1 hd
    obtain ⟨i2, h2, rfl⟩ := List.mem_iff_getElem.1 hc
    have hij : i1 ≠ i2 := fun e => hne (by subst e; rfl)
    have hx : ∀ x ∈ L[i1].foot, W'.heap[x]? = W.heap[x]? := fun x hx => hoff x (by have := hlow _ hd x hx; omega) (fun e => hA.at_ h1 h2 hij x hx (by rw [e]; simp [Ses.foot]))
    exact (h.left _ hd (fun hm => hid (by rw [show ids.take j = (ids.take j').take j by rw [List.take_take, Nat.min_eq_left hj]] at hm; exact List.take_subset _ _ hm))).move (hx _ (by simp [Ses.foot])) (hx _ (by simp [Ses.foot])) (hx _ (by simp [Ses.foot]))
  · exact Kd.R_step h.row (fun k hk _ => hoff k hk.2 (by omega))
set_option maxRecDepth 100000 in
set_option maxHeartbeats 2000000 in
theorem of_calls (k : Nat) (A : Option Addr) (c : Nat) (l : List E) (boot : Int) (ended : Bool) (cs : List Core) (w : World) (hC : Kd.C k34 w A l.length l) (hc : l.length ≤ c) (h : runs k boot l [] = some cs) (hfit : fits cs = true) :
    Calls Tryd.prog 8 #[.slice A l.length c, .int .i64 boot, .bool ended] w fun en w' => ∃ v : Value, en = .returned v ∧ Kd.S k31 31 w' w.heap.size (fun _ => True) v (outs ended cs) ∧ Below w.heap.size w w' := by
  have hmk : (Instr.makeMap 52 none).run Tryd.prog w = .ok (.map (some w.heap.size)) (w.alloc (.map #[] 0)) := rfl
  go_enter Tryd.func8, Tryd.ntmps8
  go_wp2_with fail
  obtain ⟨W0, hW0⟩ : ∃ W, W = (w.alloc (.map #[] 0)).alloc (.cells #[.map (some w.heap.size)] 54) := ⟨_, rfl⟩
  rw [← hW0]
  have hB0 : Below w.heap.size w W0 := by rw [hW0]; exact ((Below.refl _ _).alloc (Nat.le_refl _) _).alloc (by simp) _
  have hsz0 : W0.heap.size = w.heap.size + 2 := by rw [hW0]; simp
  have hm0 : IsMap W0 w.heap.size [] [] := IsMap.move (made w) (by rw [hW0]; exact (MapKept.heap_alloc _ _).2 _ (by simp))
  have hb0 : W0.heap[w.heap.size + 1]? = some (.cells #[.map (some w.heap.size)] 54 (0, 0)) := by
    have := (MapKept.heap_alloc (w.alloc (.map #[] 0)) (.cells #[.map (some w.heap.size)] 54)).1
    rw [show (w.alloc (.map #[] 0)).heap.size = w.heap.size + 1 by simp] at this
    rw [hW0]
    exact this
  have HW0 := Lib.hid hW0
  clear hW0 hmk
  have hmx := Kd.C_max hC
  have HFIT := Lib.hid hfit
  clear hfit
  go_loopw [20] (fun v20 wr => ∃ j : Nat, j ≤ l.length ∧ v20 = .int .i64 (j : Int) ∧ Below w.heap.size w wr ∧ w.heap.size + 2 ≤ wr.heap.size ∧ wr.heap[w.heap.size + 1]? = some (.cells #[.map (some w.heap.size)] 54 (0, 0)) ∧ ∃ L : List Ses, St wr w.heap.size L ∧ (∀ c ∈ L, ∀ k ∈ c.foot, w.heap.size + 2 ≤ k) ∧ runs k boot (l.take j) [] = some (L.map core)) (fun v20 _ => l.length - (intOf v20).toNat)
  case atStart => exact ⟨0, Nat.zero_le _, rfl, hB0, by omega, hb0, [], ⟨hm0, by simp, ⟨by simp, List.Pairwise.nil⟩⟩, by simp, rfl⟩
  case round =>
    obtain ⟨j, hj, rfl, hB, hsz, hb7, L, hS, hnew, hrun⟩ := hrel
    by_cases hlt : j < l.length
    · obtain ⟨ad, A3, c3, rfl, a0, a1, a2, a3, a4, h3, hC3⟩ := at_T34 (Kd.C_below hC hB) (j : Int) (by omega) (by omega)
      have hsplit : l = l.take j ++ (rd_T34 l j :: l.drop (j + 1)) := by
        have h1 : rd_T34 l j = l[j] := by simp [rd_T34, List.getD_eq_getElem?_getD, hlt]
        rw [h1, List.getElem_cons_drop, List.take_append_drop]
      have hsn : l.take (j + 1) = l.take j ++ [rd_T34 l j] := by
        rw [List.take_succ_eq_append_getElem hlt]
        simp [rd_T34, List.getD_eq_getElem?_getD, hlt]
      have hr : ∃ r, read k (rd_T34 l j) boot = some r := by
        rw [hsplit, runs_front, hrun, Option.bind_some, runs] at h
        obtain ⟨r, h1, _⟩ := Option.bind_eq_some_iff.1 h
        exact ⟨r, h1⟩
      have HSN := Lib.hid hsn
      have HLT := Lib.hid hlt
      have hwp : wrap64 ((j : Int) + 1) = (j : Int) + 1 := by unfold wrap64; omega
      clear hsplit hsn
      obtain ⟨r, hr⟩ := hr
      simp only [Int.toNat_natCast] at a0 a1 a2 a3 a4
      have HB := Lib.hid hB
      have HR := Lib.hid hr
      have HS := Lib.hid hS
      have HRUN := Lib.hid hrun
      have HC3 := Lib.hid hC3
      have HH := Lib.hid h
      clear hB hr hS hrun hC3 hB0 hm0 hb0 h
      go_wp2_with fail
      have hBa : Below w.heap.size w (wr.alloc (.cells #[.int .i64 (rd_T34 l j).f0, .int .i64 (rd_T34 l j).f1, .int .i64 (rd_T34 l j).f2, .slice A3 (rd_T34 l j).f3.length c3, .bool (rd_T34 l j).f4] 34)) := HB.out.alloc (by omega) _
      refine (read_calls k (rd_T34 l j) boot A3 c3 r _ (Kd.C_alloc HC3.out _) h3 HR.out).mono ?_
      rintro e1 wN ⟨rfl, hBN⟩
      have hev : wN.heap[wr.heap.size]? = some (.cells #[.int .i64 (rd_T34 l j).f0, .int .i64 (rd_T34 l j).f1, .int .i64 (rd_T34 l j).f2, .slice A3 (rd_T34 l j).f3.length c3, .bool (rd_T34 l j).f4] 34 (0, 0)) := (hBN.block _ (by simp)).trans (MapKept.heap_alloc _ _).1
      have hkept : ∀ k, k < wr.heap.size → wN.heap[k]? = wr.heap[k]? := fun k hk => (hBN.block k (by simp; omega)).trans ((MapKept.heap_alloc _ _).2 k hk)
      have hBw : Below w.heap.size w wN := below_step hBa hBN
      have hszN : wr.heap.size + 1 ≤ wN.heap.size := by have := hBN.size; simpa using this
      have hbx := (hkept _ (show w.heap.size + 1 < wr.heap.size by omega)).trans hb7
      obtain ⟨x, ok⟩ := r
      dsimp only
      unfold KaTake.Act.val
      have hac : ∀ i, i < wN.heap.size → (wN.alloc (.cells #[.int .i64 x.pid, .int .i64 x.ses, .int .i64 x.auid, .int .i64 x.exit, .int .i64 x.a0, .int .i64 x.a1, .string x.call, .bool x.ok] 56)).heap[i]? = wN.heap[i]? := fun i hi => (MapKept.heap_alloc _ _).2 i hi
      have hBx : Below w.heap.size w (wN.alloc (.cells #[.int .i64 x.pid, .int .i64 x.ses, .int .i64 x.auid, .int .i64 x.exit, .int .i64 x.a0, .int .i64 x.a1, .string x.call, .bool x.ok] 56)) := hBw.alloc (by omega) _
      have hSx : St (wN.alloc (.cells #[.int .i64 x.pid, .int .i64 x.ses, .int .i64 x.auid, .int .i64 x.exit, .int .i64 x.a0, .int .i64 x.a1, .string x.call, .bool x.ok] 56)) w.heap.size L := St.kept HS.out (fun k hk => (hac k (by omega)).trans (hkept k hk))
      have q0 : (wN.alloc (.cells #[.int .i64 x.pid, .int .i64 x.ses, .int .i64 x.auid, .int .i64 x.exit, .int .i64 x.a0, .int .i64 x.a1, .string x.call, .bool x.ok] 56)).cell? ⟨w.heap.size + 1, 0, none⟩ = some (.map (some w.heap.size)) := by simp only [World.cell?, (hac _ (show w.heap.size + 1 < wN.heap.size by omega)).trans hbx]; rfl
      have q1 : (wN.alloc (.cells #[.int .i64 x.pid, .int .i64 x.ses, .int .i64 x.auid, .int .i64 x.exit, .int .i64 x.a0, .int .i64 x.a1, .string x.call, .bool x.ok] 56)).cell? ⟨wr.heap.size, 1, none⟩ = some (.int .i64 (rd_T34 l j).f1) := by simp only [World.cell?, (hac _ (show wr.heap.size < wN.heap.size by omega)).trans hev]; rfl
      have hszx : w.heap.size + 2 ≤ (wN.alloc (.cells #[.int .i64 x.pid, .int .i64 x.ses, .int .i64 x.auid, .int .i64 x.exit, .int .i64 x.a0, .int .i64 x.a1, .string x.call, .bool x.ok] 56)).heap.size := by simp; omega
      have hbxx := (hac _ (show w.heap.size + 1 < wN.heap.size by omega)).trans hbx
      have HBX := Lib.hid hBx
      have HSX := Lib.hid hSx
      have HBXX := Lib.hid hbxx
      clear hac hBx hSx hbxx hev hkept hBw hBN hBa hbx hb7
      cases ok
      · go_wp2_with fail
        have hlt' := HLT.out
        go_roundw
        case rel => exact ⟨j + 1, by omega, by first | go_num | (rw [hwp]; rfl) | simp [hwp], HBX.out, hszx, HBXX.out, L, HSX.out, hnew, by rw [HSN.out, runs_snoc, HRUN.out, Option.bind_some, HR.out]; rfl⟩
        case measure => simp only [intOf]; (try simp only [hwp]); omega
      · go_wp2_with fail
        refine (take_calls x (rd_T34 l j).f1 HSX.out).mono ?_
        rintro e2 w' ⟨rfl, L1, h1, h2, h3, h4, h5⟩
        have hout : ∀ k, (k = w.heap.size ∨ ∃ c ∈ L, k ∈ c.foot) → w.heap.size ≤ k ∧ k ≠ w.heap.size + 1 := by
          rintro k (rfl | ⟨c, hc, hk⟩)
          · omega
          · have := hnew c hc k hk
            omega
        have g1 : Below w.heap.size w w' := below_of HBX.out (by omega) h4 (fun k hk => (hout k hk).1) h5
        have g2 := (h4.2 (w.heap.size + 1) (by omega) (fun hk => (hout _ hk).2 rfl)).trans HBXX.out
        have g3 : w.heap.size + 2 ≤ w'.heap.size := Nat.le_trans hszx h4.1
        have g4 : ∀ c ∈ L1, ∀ k ∈ c.foot, w.heap.size + 2 ≤ k := fun c hc k hk => by
          rcases h3 c hc k hk with ⟨c0, hc0, hk0⟩ | h
          · exact hnew c0 hc0 k hk0
          · omega
        have G1 := Lib.hid g1
        have G2 := Lib.hid g2
        have H1 := Lib.hid h1
        have H2 := Lib.hid h2
        clear g1 g2 h1 h2 h4 h5 q0 q1
        go_wp2_with fail
        have hlt' := HLT.out
        go_roundw
        case rel => exact ⟨j + 1, by omega, by first | go_num | (rw [hwp]; rfl) | simp [hwp], G1.out, g3, G2.out, L1, H1.out, g4, by rw [HSN.out, runs_snoc, HRUN.out, Option.bind_some, HR.out, H2.out]; rfl⟩
        case measure => simp only [intOf]; (try simp only [hwp]); omega
    · obtain ⟨wo, rfl⟩ : ∃ wo : World, wo = wr := ⟨_, rfl⟩
      obtain rfl : j = l.length := by omega
      rw [List.take_length, h] at hrun
      obtain rfl : cs = L.map core := by injection hrun
      obtain ⟨hfa, hfl⟩ := fits_of HFIT.out
      have hfl' : L.length ≤ 1073741824 := by simpa using hfl
      have hfc : ∀ c ∈ L, fit (core c) = true := fun c hc => hfa _ (List.mem_map.2 ⟨c, hc, rfl⟩)
      have hM := hS.1
      have hnd := IsMap.nodup hM
      have hlow : ∀ c ∈ L, ∀ k ∈ c.foot, w.heap.size + 2 ≤ k ∧ k < wo.heap.size := fun c hc k hk => ⟨hnew c hc k hk, by have := (hS.2.1 c hc).lt; simp [Ses.foot] at hk; omega⟩
      have hwf : ∀ i ∈ L.map (·.id), KaKeys.wf i := fun i hi => by
        obtain ⟨c, hc, rfl⟩ := List.mem_map.1 hi
        exact (fit_of (hfc c hc)).1
      have c7 : wo.cell? ⟨w.heap.size + 1, 0, none⟩ = some (.map (some w.heap.size)) := by simp only [World.cell?, hb7]; rfl
      have f1 : (wo.alloc (.cells #[.map (some w.heap.size)] 52)).cell? ⟨wo.heap.size, 0, none⟩ = some (.map (some w.heap.size)) := by
        have := (MapKept.heap_alloc wo (.cells #[.map (some w.heap.size)] 52)).1
        simp only [World.cell?, this]; rfl
      have hko : ∀ i, i < wo.heap.size → (wo.alloc (.cells #[.map (some w.heap.size)] 52)).heap[i]? = wo.heap[i]? := fun i hi => (MapKept.heap_alloc _ _).2 i hi
      have hM1 : IsMap (wo.alloc (.cells #[.map (some w.heap.size)] 52)) w.heap.size (L.map (·.id)) (L.map (·.ptr)) := IsMap.move hM (hko _ (IsMap.lt hM))
      have cS := KaKeys.sortedS hM1 hwf (by simp; omega) (by simp : wo.heap.size < _) f1
      have HCS := Lib.hid cS
      have HMAP := Lib.hid hM
      have HS := Lib.hid hS
      have HB := Lib.hid hB
      have HKO := Lib.hid hko
      have HB7 := Lib.hid hb7
      have HND := Lib.hid hnd
      clear hrun cS f1 hM1 hM hfa hfl hwf h hS hB hko hb7 hnd hB0 hm0 hb0 hmx hj hlt
      go_wp2_with fail
      refine (KaKeys.keysS (some w.heap.size) wo).mono ?_
      rintro e1 W1 ⟨g, rfl, rfl, rfl⟩
      go_wp2_with fail
      refine HCS.out.mono ?_
      rintro e2 W2 ⟨v, ss, rfl, hperm, hrow, hnil, hb2⟩
      obtain ⟨ids, hids⟩ : ∃ ids, ids = srt (L.map (·.id)) := ⟨_, rfl⟩
      have hss : ss.mergeSort (fun x y => decide (x ≤ y)) = ids := by rw [hids]; exact srt_perm hperm
      have hlen : ss.length = ids.length := by rw [← hss]; exact (List.length_mergeSort ss).symm
      rw [hss, hlen] at hrow
      obtain ⟨AI, capI, rfl⟩ := own_slice hrow
      have hszW : wo.heap.size + 1 ≤ W2.heap.size := by have := hb2.size; simpa using this
      have hk2 : ∀ i, i < wo.heap.size → W2.heap[i]? = wo.heap[i]? := fun i hi => (hb2.block i (by simp; omega)).trans (HKO.out i hi)
      have hidl : ids.length ≤ 1073741824 := by rw [hids, srt_length]; simpa using hfl'
      have hT0 : Two w W2 L ids wo.heap.size W2.heap.size AI capI 0 ended (.slice none 0 0) := by
        refine ⟨below_step (HB.out.alloc (by omega) _) hb2, Nat.le_refl _, (hk2 _ (by omega)).trans HB7.out, IsMap.move HMAP.out (hk2 _ (by omega)), fun d hd _ => ?_, ?_, Kd.S_nil _ _ _ _ _⟩
        · have := fun x hx => hk2 x (hlow d hd x hx).2
          exact (HS.out.2.1 d hd).move (this _ (by simp [Ses.foot])) (this _ (by simp [Ses.foot])) (this _ (by simp [Ses.foot]))
        · have h1 : (Kd.int .i64).R 3 W2 w.heap.size (fun k => wo.heap.size ≤ k ∧ k < W2.heap.size) (.slice AI ids.length capI) ids := by
            refine Kd.R_of_own (own_weaken hrow (by simp; omega)) (fun k hk => ⟨?_, own_lt hrow k hk⟩)
            have := own_base hrow k hk
            simp at this
            omega
          exact h1
      have HT0 := Lib.hid hT0
      have HIDS := Lib.hid hids
      have HLEN := Lib.hid hlen
      have HIDL := Lib.hid hidl
      obtain ⟨M, hMq⟩ : ∃ M, M = W2.heap.size := ⟨_, rfl⟩
      rw [← hMq] at HT0 hszW
      have HMQ := Lib.hid hMq
      clear hT0 hids hlen hidl hrow hk2 hb2 hss hperm hnil hMq c7
      go_wp2_with fail
      go_loopw [12, 42] (fun v12 v42 W => ∃ j : Nat, j ≤ ids.length ∧ v42 = .int .i64 (j : Int) ∧ Two w W L ids wo.heap.size M AI capI j ended v12) (fun _ v42 _ => ids.length - (intOf v42).toNat)
      case atStart => exact ⟨0, Nat.zero_le _, rfl, HT0.out⟩
      case round =>
        obtain ⟨j, hj, rfl, hT⟩ := hrel
        by_cases hlt : j < ids.length
        · obtain ⟨ad, rfl, hcell⟩ := Kd.at_int (Kd.R_reads' hT.row).2.2 (j : Int) (by omega) (by omega)
          rw [Int.toNat_natCast] at hcell
          obtain ⟨id, hid⟩ : ∃ id, id = rd ids (j : Int) := ⟨_, rfl⟩
          rw [← hid] at hcell
          have hid' : ids[j]? = some id := by rw [hid]; simp [rd, hlt]
          have hmem : id ∈ L.map (·.id) := srt_mem.1 (by rw [← HIDS.out]; exact List.mem_of_getElem? hid')
          obtain ⟨i, hi, hie⟩ := List.mem_iff_getElem.1 hmem
          have hi' : i < L.length := by simpa using hi
          obtain ⟨c, hcq⟩ : ∃ c, c = L[i] := ⟨_, rfl⟩
          have hcL : c ∈ L := by rw [hcq]; exact List.getElem_mem hi'
          have hcid : c.id = id := by rw [hcq]; simpa using hie
          have hidn : ids.Nodup := by rw [HIDS.out]; exact srt_nodup HND.out
          have hnot : c.id ∉ ids.take j := by
            rw [hcid]
            intro hm
            obtain ⟨i2, h2, h3⟩ := List.mem_take_iff_getElem.1 hm
            have h4 : ids[i2]? = some id := by rw [List.getElem?_eq_getElem (by omega)]; exact congrArg some h3
            have := (List.getElem?_inj (by omega) hidn).1 (h4.trans hid'.symm)
            omega
          have hone := hT.left c hcL hnot
          obtain ⟨hw1, hw2, hw3, hw4, hw5⟩ := fit_of (hfc c hcL)
          have hfoot : c.b ≠ c.p ∧ c.b ≠ c.q ∧ c.p ≠ c.q := by
            have := (HS.out.2.2.1 c hcL).2
            simp [Ses.foot] at this
            exact ⟨this.1.1, this.1.2, this.2⟩
          have hlk := look_hit uMS uI hT.map (show (L.map (·.id))[i]? = some id by simp [hi', ← hcid, hcq]) (show (L.map (·.ptr))[i]? = some (.pointer (some ⟨c.b, 0, none⟩)) by simp [hi', Ses.ptr, hcq])
          have hlo := hlow c hcL
          have hb0 := hlo c.b (by simp [Ses.foot])
          have hp0 := hlo c.p (by simp [Ses.foot])
          have hq0 := hlo c.q (by simp [Ses.foot])
          have hTs := hT.sz
          have f0 : wr.cell? ⟨w.heap.size + 1, 0, none⟩ = some (.map (some w.heap.size)) := by simp only [World.cell?, hT.box]; rfl
          have k9 : wr.cell? ⟨c.b, 9, none⟩ = some (.map (some c.p)) := by simp [World.cell?, hone.1, Ses.cells, sesCells]
          have hal : ∀ i, i < wr.heap.size → (wr.alloc (.cells #[.map (some c.p)] 66)).heap[i]? = wr.heap[i]? := fun i hi => (MapKept.heap_alloc _ _).2 i hi
          have f1 : (wr.alloc (.cells #[.map (some c.p)] 66)).cell? ⟨wr.heap.size, 0, none⟩ = some (.map (some c.p)) := by
            have := (MapKept.heap_alloc wr (.cells #[.map (some c.p)] 66)).1
            simp only [World.cell?, this]; rfl
          have cP := KaKeys.sortedB (IsMap.move hone.2.1 (hal _ hone.lt.2.1)) hw2 (Nat.le_trans hw4 (by omega)) (by simp : wr.heap.size < _) f1
          have HCP := Lib.hid cP
          have HT := Lib.hid hT
          have HID := Lib.hid hid'
          have HIN := Lib.hid hidn
          have HON := Lib.hid hone
          have HCID := Lib.hid hcid
          have HAL := Lib.hid hal
          have HLT := Lib.hid hlt
          clear hid hid' hidn hone hcid hal f1 cP hnot hie hT hmem hw1 hlt
          clear hcq
          clear hi hi'
          go_wp2_with fail
          refine (KaKeys.keysB (some c.p) wr).mono ?_
          rintro e1 W1 ⟨g, rfl, rfl, rfl⟩
          go_wp2_with fail
          refine HCP.out.mono ?_
          rintro e2 W2 ⟨v7, s7, rfl, hp7, hr7, _, hb7⟩
          obtain ⟨A7, n7, rfl⟩ := own_slice hr7
          have hs2 : wr.heap.size + 1 ≤ W2.heap.size := by have := hb7.size; simpa using this
          have h2 : ∀ i, i < wr.heap.size → W2.heap[i]? = wr.heap[i]? := fun i hi => (hb7.block i (by simp; omega)).trans (HAL.out i hi)
          have h2b := (h2 c.b (by omega)).trans HON.out.1
          have u7 : W2.cell? ⟨c.b, 7, none⟩ = some (.slice none 0 0) := by simp [World.cell?, h2b, Ses.cells, sesCells]
          have z7 : W2.frozen? ⟨c.b, 7, none⟩ = false := by simp [World.frozen?, h2b]
          have hsm2 : Same wr W2 := ⟨hb7.os, hb7.tape, hb7.output⟩
          have H2 := Lib.hid h2
          have HSM2 := Lib.hid hsm2
          have HR7 := Lib.hid hr7
          have HP7 := Lib.hid hp7
          clear h2 hsm2 hr7 hp7 hb7
          go_upto_region 15 with fail
          obtain ⟨W3, hW3⟩ : ∃ X, X = W2.setCell ⟨c.b, 7, none⟩ (.slice A7 s7.length n7) := ⟨_, rfl⟩
          rw [← hW3]
          have h3b : W3.heap[c.b]? = some (.cells (c.cells.setIfInBounds 7 (.slice A7 s7.length n7)) 68 (0, 0)) := by
            rw [hW3]
            exact KaTake.blk_set h2b 7 _
          have h3 : ∀ i, i ≠ c.b → W3.heap[i]? = W2.heap[i]? := fun i hi => by rw [hW3]; exact heap_setCell_other _ ⟨_, 7, none⟩ _ _ hi
          have hs3 : W2.heap.size ≤ W3.heap.size := by rw [hW3]; simp
          have hs3' : W3.heap.size ≤ W2.heap.size := by rw [hW3]; simp
          have hsm3 : Same W2 W3 := by rw [hW3]; exact ⟨rfl, rfl, rfl⟩
          have k10 : W3.cell? ⟨c.b, 10, none⟩ = some (.map (some c.q)) := by simp [World.cell?, h3b, Ses.cells, sesCells]
          have hal3 : ∀ i, i < W3.heap.size → (W3.alloc (.cells #[.map (some c.q)] 66)).heap[i]? = W3.heap[i]? := fun i hi => (MapKept.heap_alloc _ _).2 i hi
          have f3 : (W3.alloc (.cells #[.map (some c.q)] 66)).cell? ⟨W3.heap.size, 0, none⟩ = some (.map (some c.q)) := by
            have := (MapKept.heap_alloc W3 (.cells #[.map (some c.q)] 66)).1
            simp only [World.cell?, this]; rfl
          have cQ := KaKeys.sortedB (IsMap.move HON.out.2.2 ((hal3 _ (by omega)).trans ((h3 _ (Ne.symm hfoot.2.1)).trans (H2.out _ (by omega))))) hw3 (Nat.le_trans hw5 (by omega)) (by simp : W3.heap.size < _) f3
          have HCQ3 := Lib.hid cQ
          have H3 := Lib.hid h3
          have HSM3 := Lib.hid hsm3
          have HAL3 := Lib.hid hal3
          have HW3 := Lib.hid hW3
          clear cQ h3 hsm3 hal3 hW3 f3 u7 z7
          go_wp2_with fail
          refine (KaKeys.keysB (some c.q) W3).mono ?_
          rintro e1 W1 ⟨g, rfl, rfl, rfl⟩
          go_wp2_with fail
          refine HCQ3.out.mono ?_
          rintro e2 W4 ⟨v8, s8, rfl, hp8, hr8, _, hb8⟩
          obtain ⟨m8, hm8⟩ : ∃ m, m = s8.length := ⟨_, rfl⟩
          rw [← hm8] at hr8
          obtain ⟨A8, n8, rfl⟩ := own_slice hr8
          have HM8 := Lib.hid hm8
          clear hm8
          have hs4 : W3.heap.size + 1 ≤ W4.heap.size := by have := hb8.size; simpa using this
          have h4 : ∀ i, i < W3.heap.size → W4.heap[i]? = W3.heap[i]? := fun i hi => (hb8.block i (by simp; omega)).trans (HAL3.out i hi)
          have h4b := (h4 c.b (by omega)).trans h3b
          have u8 : W4.cell? ⟨c.b, 8, none⟩ = some (.slice none 0 0) := by simp [World.cell?, h4b, Ses.cells, sesCells]
          have z8 : W4.frozen? ⟨c.b, 8, none⟩ = false := by simp [World.frozen?, h4b]
          have hsm4 : Same W3 W4 := ⟨hb8.os, hb8.tape, hb8.output⟩
          have H4 := Lib.hid h4
          have HSM4 := Lib.hid hsm4
          have HR8 := Lib.hid hr8
          have HP8 := Lib.hid hp8
          clear h4 hsm4 hr8 hp8 hb8 k10
          go_upto_block 4 with fail
          obtain ⟨W5, hW5⟩ : ∃ X, X = W4.setCell ⟨c.b, 8, none⟩ (.slice A8 m8 n8) := ⟨_, rfl⟩
          rw [← hW5]
          have h5b : W5.heap[c.b]? = some (.cells ((c.cells.setIfInBounds 7 (.slice A7 s7.length n7)).setIfInBounds 8 (.slice A8 m8 n8)) 68 (0, 0)) := by
            rw [hW5]
            exact KaTake.blk_set h4b 8 _
          have h5 : ∀ i, i ≠ c.b → W5.heap[i]? = W4.heap[i]? := fun i hi => by rw [hW5]; exact heap_setCell_other _ ⟨_, 8, none⟩ _ _ hi
          have hs5 : W4.heap.size ≤ W5.heap.size := by rw [hW5]; simp
          have hs5' : W5.heap.size ≤ W4.heap.size := by rw [hW5]; simp
          have hsm5 : Same W4 W5 := by rw [hW5]; exact ⟨rfl, rfl, rfl⟩
          have y8 : W5.cell? ⟨c.b, 8, none⟩ = some (.slice A8 m8 n8) := by simp [World.cell?, h5b, Ses.cells, sesCells]
          have y6 : W5.cell? ⟨c.b, 6, none⟩ = some (.int .i64 0) := by simp [World.cell?, h5b, Ses.cells, sesCells]
          have z6 : W5.frozen? ⟨c.b, 6, none⟩ = false := by simp [World.frozen?, h5b]
          have HW5 := Lib.hid hW5
          have H5 := Lib.hid h5
          have HSM5 := Lib.hid hsm5
          clear hW5 h5 hsm5 u8 z8
          have hq8 : (m8 = 0) ↔ c.qs = [] := by
            rw [HM8.out, HP8.out.length_eq]
            exact List.length_eq_zero_iff
          have hways : ∃ st : Int, st = stOf ended c.qs ∧ ((((m8 : Int) == 0) = true ∧ st = 2) ∨ (((m8 : Int) == 0) = false ∧ ended = true ∧ st = 3) ∨ (((m8 : Int) == 0) = false ∧ ended = false ∧ st = 1)) := by
            refine ⟨_, rfl, ?_⟩
            unfold stOf
            by_cases e : m8 = 0
            · exact .inl ⟨by simp [e], by rw [if_pos (hq8.1 e)]⟩
            · right
              have e' : ¬ c.qs = [] := fun h => e (hq8.2 h)
              have e2 : ((m8 : Int) == 0) = false := by
                apply beq_eq_false_iff_ne.2
                omega
              rw [if_neg e']
              cases ended
              · exact .inr ⟨e2, rfl, rfl⟩
              · exact .inl ⟨e2, rfl, rfl⟩
          obtain ⟨st, hst, hways⟩ := hways
          have HST := Lib.hid hst
          clear hst hq8
          go_cut [15] from 70 to 91 (fun s15 wc => s15 = .pointer (some ⟨c.b, 0, none⟩) ∧ wc = W5.setCell ⟨c.b, 6, none⟩ (.int .i64 st))
          case first =>
            have hw2 : (((m8 : Int) == 0) = true ∧ st = 2) ∨ (((m8 : Int) == 0) = false ∧ ((ended = true ∧ st = 3) ∨ (ended = false ∧ st = 1))) := by
              rcases hways with h | ⟨h, h1⟩ | ⟨h, h1⟩
              · exact .inl h
              · exact .inr ⟨h, .inl h1⟩
              · exact .inr ⟨h, .inr h1⟩
            clear hways
            rcases hw2 with ⟨e1, e2⟩ | ⟨e1, e2⟩
            · have E2 := Lib.hid e2
              clear e2
              go_wp2_with fail
              go_meet
              exact ⟨rfl, by rw [E2.out]⟩
            · have E2 := Lib.hid e2
              clear e2
              go_wp2_with fail
              · go_meet
                exact ⟨rfl, by
                  rcases E2.out with ⟨h, e⟩ | ⟨h, e⟩
                  · rw [e]
                  · exact absurd (‹ended = true›.symm.trans h) (by decide)⟩
              · go_meet
                exact ⟨rfl, by
                  rcases E2.out with ⟨h, e⟩ | ⟨h, e⟩
                  · exact absurd (h.symm.trans ‹ended = false›) (by decide)
                  · rw [e]⟩
          case rest =>
            obtain ⟨rfl, rfl⟩ := hcut
            obtain ⟨W6, hW6⟩ : ∃ X, X = W5.setCell ⟨c.b, 6, none⟩ (.int .i64 st) := ⟨_, rfl⟩
            rw [← hW6]
            have h6b : W6.heap[c.b]? = some (.cells (((c.cells.setIfInBounds 7 (.slice A7 s7.length n7)).setIfInBounds 8 (.slice A8 m8 n8)).setIfInBounds 6 (.int .i64 st)) 68 (0, 0)) := by
              rw [hW6]
              exact KaTake.blk_set h5b 6 _
            have h6 : ∀ i, i ≠ c.b → W6.heap[i]? = W5.heap[i]? := fun i hi => by rw [hW6]; exact heap_setCell_other _ ⟨_, 6, none⟩ _ _ hi
            have hs6 : W5.heap.size ≤ W6.heap.size := by rw [hW6]; simp
            have hs6' : W6.heap.size ≤ W5.heap.size := by rw [hW6]; simp
            have hsm6 : Same W5 W6 := by rw [hW6]; exact ⟨rfl, rfl, rfl⟩
            have g0 : W6.cell? ⟨c.b, 0, none⟩ = some (.int .i64 c.id) := by simp [World.cell?, h6b, Ses.cells, sesCells]
            have g1 : W6.cell? ⟨c.b, 1, none⟩ = some (.int .i64 c.au) := by simp [World.cell?, h6b, Ses.cells, sesCells]
            have g2 : W6.cell? ⟨c.b, 2, none⟩ = some (.int .i64 c.fi) := by simp [World.cell?, h6b, Ses.cells, sesCells]
            have g3 : W6.cell? ⟨c.b, 3, none⟩ = some (.int .i64 c.la) := by simp [World.cell?, h6b, Ses.cells, sesCells]
            have g4 : W6.cell? ⟨c.b, 4, none⟩ = some (.int .i64 c.ev) := by simp [World.cell?, h6b, Ses.cells, sesCells]
            have g5 : W6.cell? ⟨c.b, 5, none⟩ = some (.int .i64 c.fa) := by simp [World.cell?, h6b, Ses.cells, sesCells]
            have g6 : W6.cell? ⟨c.b, 6, none⟩ = some (.int .i64 st) := by simp [World.cell?, h6b, Ses.cells, sesCells]
            have g7 : W6.cell? ⟨c.b, 7, none⟩ = some (.slice A7 s7.length n7) := by simp [World.cell?, h6b, Ses.cells, sesCells]
            have g8 : W6.cell? ⟨c.b, 8, none⟩ = some (.slice A8 m8 n8) := by simp [World.cell?, h6b, Ses.cells, sesCells]
            have hfar : ∀ i, i < wr.heap.size → i ≠ c.b → W6.heap[i]? = wr.heap[i]? := fun i hi hne => (h6 i hne).trans ((H5.out i hne).trans ((H4.out i (by omega)).trans ((H3.out i hne).trans (H2.out i hi))))
            have hsame : Same wr W6 := (((HSM2.out.trans HSM3.out).trans HSM4.out).trans HSM5.out).trans hsm6
            have hl7 : s7.length = (srt c.ps).length := by rw [srt_length]; exact HP7.out.length_eq
            have hl8 : m8 = (srt c.qs).length := by rw [srt_length, HM8.out]; exact HP8.out.length_eq
            have r7 : (Kd.int .i64).R 3 W6 w.heap.size (fun k => wr.heap.size ≤ k) (.slice A7 s7.length n7) (srt c.ps) := by
              have h1 := HR7.out
              rw [show s7.mergeSort (fun x y => decide (x ≤ y)) = srt c.ps from srt_perm HP7.out] at h1
              have h2 : (Kd.int .i64).R 3 W2 w.heap.size (fun k => wr.heap.size ≤ k ∧ k < W2.heap.size) (.slice A7 s7.length n7) (srt c.ps) := by
                refine Kd.R_of_own (by rw [← hl7]; exact own_weaken h1 (by simp; omega)) (fun k hk => ⟨?_, own_lt h1 k hk⟩)
                have := own_base h1 k hk
                simp at this
                omega
              refine Kd.R_mono (Kd.R_step h2 (fun k hk hlt => ?_)) (fun k hk => hk.1)
              exact (h6 k (by omega)).trans ((H5.out k (by omega)).trans ((H4.out k (by omega)).trans (H3.out k (by omega))))
            have r8 : (Kd.int .i64).R 3 W6 w.heap.size (fun k => wr.heap.size ≤ k) (.slice A8 m8 n8) (srt c.qs) := by
              have h1 := HR8.out
              rw [show s8.mergeSort (fun x y => decide (x ≤ y)) = srt c.qs from srt_perm HP8.out] at h1
              have h2 : (Kd.int .i64).R 3 W4 w.heap.size (fun k => wr.heap.size ≤ k ∧ k < W4.heap.size) (.slice A8 m8 n8) (srt c.qs) := by
                refine Kd.R_of_own (by rw [← hl8]; exact own_weaken h1 (by simp; omega)) (fun k hk => ⟨?_, own_lt h1 k hk⟩)
                have := own_base h1 k hk
                simp at this
                omega
              refine Kd.R_mono (Kd.R_step h2 (fun k hk hlt => ?_)) (fun k hk => hk.1)
              exact (h6 k (by omega)).trans (H5.out k (by omega))
            have hx : k31.M W6 w.heap.size (fun k => wr.heap.size ≤ k) (fin ended (core c)) [.int .i64 c.id, .int .i64 c.au, .int .i64 c.fi, .int .i64 c.la, .int .i64 c.ev, .int .i64 c.fa, .int .i64 st, .slice A7 s7.length n7, .slice A8 m8 n8] := by
              rw [HST.out]
              exact k31_mkM W6 w.heap.size (fun k => wr.heap.size ≤ k) (fin ended (core c)) r7 r8
            have hcid := HCID.out
            have hS0 : Kd.S k31 31 W6 w.heap.size (fun k => M ≤ k ∧ ¬ wr.heap.size ≤ k) u12 ((ids.take j).map fun id => fin ended (look (L.map core) id)) := by
              refine Kd.S_mono (Kd.S_step (Kd.S_bound HT.out.out) (fun k hk _ => hfar k hk.2.2.1 (by have := hk.1; omega))) (fun k hk => ⟨hk.1, by have := hk.2.2.1; omega⟩)
            have hne8 : ∀ k, wr.heap.size ≤ k → M ≤ k ∧ some k ≠ u12.ownBlock := fun k hk => ⟨by omega, fun e => by have := Kd.S_lt HT.out.out k e.symm; omega⟩
            have hbel6 : Below w.heap.size w W6 := ⟨hsame.1.trans HT.out.bel.os, hsame.2.1.trans HT.out.bel.tape, hsame.2.2.trans HT.out.bel.output, by have := HT.out.bel.size; omega, fun k hk => (hfar k (by have := HT.out.bel.size; omega) (by omega)).trans (HT.out.bel.block k hk)⟩
            have hsz6 : w.heap.size ≤ W6.heap.size := hbel6.size
            have hll : (((ids.take j).map fun id => fin ended (look (L.map core) id)).length + 1) * 104 ≤ 140737488355328 := by
              have := HIDL.out
              simp
              omega
            have HX := Lib.hid hx
            have HS0 := Lib.hid hS0
            have HFAR := Lib.hid hfar
            have HSAME := Lib.hid hsame
            have HNE8 := Lib.hid hne8
            have HLL := Lib.hid hll
            have HW6 := Lib.hid hW6
            have HCI := Lib.hid hcid
            have HBEL := Lib.hid hbel6
            clear hx hS0 hfar hsame hne8 hll hW6 hcid hbel6 h6 hsm6 r7 r8 hl7 hl8
            go_wp2_with (at_builtin; refine Kd.S_append k31 w.heap.size rfl (.tmp 92) (.tmp 97) 27 31 (.agg #[.int .i64 0, .int .i64 0, .int .i64 0, .int .i64 0, .int .i64 0, .int .i64 0, .int .i64 0, .slice none 0 0, .slice none 0 0]) 104 rfl Tryd.underlying27 infoR rfl (by decide) (by omega) u12 _ (fin ended (core c)) _ (fun k => M ≤ k) (fun k => wr.heap.size ≤ k) rfl rfl HX.out HNE8.out (fun k hk => by omega) HS0.out HBEL.out hsz6 HLL.out ?_; intro v1 w1 hr1 hb1 hg1 _; have HR1 := Lib.hid hr1; have HG1 := Lib.hid hg1; clear hr1 hb1 hg1)
            have hlt' := HLT.out
            go_roundw
            case rel =>
              have hcT : ids.take (j + 1) = ids.take j ++ [c.id] := by
                rw [List.take_succ_eq_append_getElem hlt', HCI.out]
                congr 1
                have := HID.out
                rw [List.getElem?_eq_getElem hlt'] at this
                simpa using this
              have hlkc : look (L.map core) c.id = core c := look_at (cs := L.map core) (c := core c) (by rw [List.map_map]; exact HND.out) (List.mem_map.2 ⟨c, hcL, rfl⟩)
              refine ⟨j + 1, Nat.succ_le_of_lt hlt', vl_w hlt' HIDL.out, Two.step HT.out HS.out.2.2 hlow ⟨hsz, by omega⟩ hcL (Nat.le_succ j) (by rw [hcT]; simp) (by have := HG1.out.size; omega) (fun k hk hne => ?_) (HSAME.out.trans ⟨HG1.out.os, HG1.out.tape, HG1.out.output⟩) ?_⟩
              · refine (HG1.out.block k (by omega) (fun e => ?_)).trans (HFAR.out k (by omega) hne)
                have := HT.out.out
                obtain ⟨f, hf⟩ := this
                have := hf.1 k e.symm
                omega
              · rw [hcT, List.map_append, List.map_singleton, hlkc]
                exact HR1.out
            case measure => exact ms_w hlt' HIDL.out
        · obtain rfl : j = ids.length := by omega
          have hfin : Kd.S k31 31 wr w.heap.size (fun _ => True) u12 (outs ended (L.map core)) := by
            have h1 := hT.out
            rw [List.take_length] at h1
            have h2 := Kd.S_mono (ok' := fun _ => True) h1 (fun _ _ => trivial)
            unfold outs
            rw [show (L.map core).map (·.id) = L.map (·.id) by rw [List.map_map]; rfl, ← HIDS.out]
            exact h2
          have hbel := hT.bel
          have HF := Lib.hid hfin
          have HBL := Lib.hid hbel
          clear hfin hbel hT hlt hj
          go_wp2_with fail
          go_ret
          exact ⟨_, rfl, HF.out, HBL.out⟩
end KaOf
theorem KaRead.nums_mono (k : Nat) (r : S75) : ∀ l, LeO (KaRead.nums k r l) (KaRead.nums (k + 1) r l)
  | [] => LeO.refl _
  | nm :: l => LeO.bind (sessions_number.mono _ _ _ _ _ _) (fun _ => LeO.ite (LeO.bind (KaRead.nums_mono k r l) (fun _ => LeO.refl _)) (LeO.refl _))
theorem KaRead.read_mono (k : Nat) (e : S34) (boot : Int) : LeO (KaRead.read k e boot) (KaRead.read (k + 1) e boot) := by
  unfold KaRead.read
  refine LeO.ite (LeO.refl _) (LeO.ite (LeO.refl _) (LeO.ite (LeO.refl _) (LeO.bind (KaRead.nums_mono _ _ _) (fun o => ?_))))
  cases o with
  | none => exact LeO.refl _
  | some ns => exact LeO.bind (sessions_text.mono _ _ _ _ _ _) (fun _ => LeO.bind (sessions_text.mono _ _ _ _ _ _) (fun _ => LeO.refl _))
theorem KaOf.runs_mono (k : Nat) (boot : Int) : ∀ es l, LeO (KaOf.runs k boot es l) (KaOf.runs (k + 1) boot es l)
  | [], _ => LeO.refl _
  | _ :: es, _ => LeO.bind (KaRead.read_mono _ _ _) (fun _ => KaOf.runs_mono k boot es _)
def sessions_Of.f (k : Nat) (l0 : List S34) (a1 : Int) (a2 : Bool) : Option (List S31) := (KaOf.runs k a1 l0 []).bind fun cs => if KaOf.fits cs = true then some (KaOf.outs a2 cs) else none
theorem sessions_Of.mono : ∀ a0 a1 a2 k, LeO (sessions_Of.f k a0 a1 a2) (sessions_Of.f (k + 1) a0 a1 a2) := fun _ _ _ _ => LeO.bind (KaOf.runs_mono _ _ _ _) (fun _ => LeO.refl _)
theorem sessions_Of.calls (k : Nat) (A0 : Option Addr) (c0 : Nat) (l0 : List S34) (a1 : Int) (a2 : Bool) (r : List S31) (w : World) (hr0 : Kd.C k34 w A0 l0.length l0) (hc0 : l0.length ≤ c0) (h : sessions_Of.f k l0 a1 a2 = some r) :
    Calls Tryd.prog 8 #[.slice A0 l0.length c0, .int .i64 a1, .bool a2] w fun e w' => ∃ v0_ : Value, e = .returned (v0_) ∧ Kd.S k31 31 w' w.heap.size (fun _ => True) v0_ r ∧ Below w.heap.size w w' := by
  obtain ⟨cs, h1, h2⟩ := Option.bind_eq_some_iff.1 (show (KaOf.runs k a1 l0 []).bind (fun cs => if KaOf.fits cs = true then some (KaOf.outs a2 cs) else none) = some r from h)
  by_cases hf : KaOf.fits cs = true
  · rw [if_pos hf] at h2
    obtain rfl := Option.some.inj h2
    exact KaOf.of_calls k A0 c0 l0 a1 a2 cs w hr0 hc0 h1 hf
  · rw [if_neg hf] at h2
    cases h2

end Go.Proofs.YtjgehecnamadcaaDoor.Q
