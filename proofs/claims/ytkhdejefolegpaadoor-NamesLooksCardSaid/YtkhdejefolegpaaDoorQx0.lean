-- Printed by px.py: a changed copy of the kit's printer, with contracts of this session's own in it. Not trusted: Lean checks it.
import Derived.Test.YtkhdejefolegpaaDoorProg
import Derived.Below
import Derived.Deep.Draws
import Derived.Deep.AppendLies
import Derived.Maps.AppendAt
import Derived.OwnWalk
import Derived.Laws.BytesArg
import Derived.Laws.MakeOwn
import Derived.Laws.OwnMore
import Derived.Deep.OwnRows
import Derived.Tactics
import Derived.Lib.ConvBytes
import Derived.Laws.Slices
import Derived.WalkKit
import Derived.KernelRfl
import Derived.RowKit3
import Derived.Deep.LoopGhost
import Derived.Deep.QuietTactic
import Derived.BigQuiet
import Derived.WideLaws
import Derived.Deep.DeepCutAuto
import Derived.Deep.CutBlock
import Derived.Deep.RegionHeld3
import Derived.Laws.Rows
import Derived.Lib.AppendStr
import Derived.ArgAppend
import Derived.Laws.IdiomCopy
import Derived.OrdersHeld
import Derived.Laws.BitsLemmas
import Derived.RowKit
import Derived.Laws.Runes
import Derived.Lib.Hide
import Derived.LoopIn
import Derived.LoopNIn
import Derived.MapKept
import Derived.Maps.AppendAt
import Derived.OwnWalkIn
import Derived.RangeFuncBound
import Derived.RangeFuncBox
import Derived.RangeFuncCalls
import Derived.RangeFuncLeaves
import Derived.RangeFuncNested
import Derived.Shelf.Abstract
import Derived.Shelf.RegionOpen
import Derived.TacticsInMore
import Derived.Test.YtkhdejefolegpaaDoorKaSort
import Derived.WalkKit
import Derived.Test.YtkhdejefolegpaaDoorWWords
import Derived.Test.YtkhdejefolegpaaDoorWLast
import Derived.Test.YtkhdejefolegpaaDoorWTab
import Derived.Test.YtkhdejefolegpaaDoorWFour
import Derived.Test.YtkhdejefolegpaaDoorWQPut
import Derived.Test.YtkhdejefolegpaaDoorWApart
import Derived.Test.YtkhdejefolegpaaDoorWArr
import Derived.Test.YtkhdejefolegpaaDoorWZeros
import Derived.Test.YtkhdejefolegpaaDoorWFoot
import Derived.Test.YtkhdejefolegpaaDoorWKept
import Derived.Test.YtkhdejefolegpaaDoorWShare
import Derived.Test.YtkhdejefolegpaaDoorWN
import Derived.Test.YtkhdejefolegpaaDoorWFootNe
import Derived.Test.YtkhdejefolegpaaDoorWAt
import Derived.Test.YtkhdejefolegpaaDoorWEqStruct
import Derived.Test.YtkhdejefolegpaaDoorWRepsOne
import Derived.Test.YtkhdejefolegpaaDoorWInv
import Derived.Test.YtkhdejefolegpaaDoorWInvWords
import Derived.Test.YtkhdejefolegpaaDoorWGuard
import Derived.Test.YtkhdejefolegpaaDoorWNEv
import Derived.Test.YtkhdejefolegpaaDoorWMore
namespace Go.Proofs.YtkhdejefolegpaaDoor.Q
open Go.RowKit Go.Proofs.YtkhdejefolegpaaDoorW.PrintWords Go.Proofs.YtkhdejefolegpaaDoorW.PrintLast Go.Proofs.YtkhdejefolegpaaDoorW.PrintMore
attribute [local go_sem] max2_int min2_int max_two min_two max_three min_three max_four min_four   -- for this text's walks alone
set_option linter.unusedVariables false
set_option linter.unusedSimpArgs false



def errW : Option Int → Value
  | none => .nilIface
  | some c => .iface 0 (.int .i64 c)
theorem errW_none : errW none = .nilIface := rfl
theorem errW_some (c : Int) : errW (some c) = .iface 0 (.int .i64 c) := rfl

theorem info3 : (Tryd.prog.info? 3).map (fun i => (i.zero, i.size, i.bytes)) = some (some (.int .i64 0), 1, 8) := by kernel_rfl
theorem info5 : (Tryd.prog.info? 5).map (fun i => (i.zero, i.size, i.bytes)) = some (some (.int .u8 0), 1, 1) := by kernel_rfl
theorem info9 : (Tryd.prog.info? 9).map (fun i => (i.zero, i.size, i.bytes)) = some (some (.string ⟨#[]⟩), 1, 16) := by kernel_rfl
theorem info23 : (Tryd.prog.info? 23).map (fun i => (i.zero, i.size, i.bytes)) = some (some (.slice none 0 0), 1, 24) := by kernel_rfl
theorem info43 : (Tryd.prog.info? 43).map (fun i => (i.zero, i.size, i.bytes)) = some (some (.agg #[(.int .i64 0), (.int .i64 0), (.int .i64 0), (.string ⟨#[]⟩)]), 4, 40) := by kernel_rfl
-- the values' own types
/-! #### struct type 43 -/
structure S43 where
  f0 : Int
  f1 : Int
  f2 : Int
  f3 : ByteArray
def z43 : S43 := ⟨(0 : Int), (0 : Int), (0 : Int), (⟨#[]⟩ : ByteArray)⟩
def k43 : Kd S43 := Kd.iso (Kd.pair (Kd.int .i64) (Kd.pair (Kd.int .i64) (Kd.pair (Kd.int .i64) Kd.string))) (fun x : S43 => (x.f0, x.f1, x.f2, x.f3))
theorem k43_open {w : World} {x : S43} {cs : List Value} (h : k43.K w x cs) : cs = [.int .i64 x.f0, .int .i64 x.f1, .int .i64 x.f2, .string x.f3] := by
  obtain ⟨_, _, rfl, rfl, ⟨_, _, rfl, rfl, ⟨_, _, rfl, rfl, rfl⟩⟩⟩ := h
  exact rfl
theorem k43_openM {w : World} {base : Nat} {ok : Nat → Prop} {x : S43} {cs : List Value} (h : k43.M w base ok x cs) : cs = [.int .i64 x.f0, .int .i64 x.f1, .int .i64 x.f2, .string x.f3] := by
  obtain ⟨_, _, rfl, rfl, ⟨_, _, rfl, rfl, ⟨_, _, rfl, rfl, rfl⟩⟩⟩ := h
  exact rfl
theorem k43_mk (w : World) (x : S43)  : k43.K w x [.int .i64 x.f0, .int .i64 x.f1, .int .i64 x.f2, .string x.f3] := ⟨[.int .i64 x.f0], [.int .i64 x.f1, .int .i64 x.f2, .string x.f3], rfl, rfl, ⟨[.int .i64 x.f1], [.int .i64 x.f2, .string x.f3], rfl, rfl, ⟨[.int .i64 x.f2], [.string x.f3], rfl, rfl, rfl⟩⟩⟩
theorem k43_mkM (w : World) (base : Nat) (ok : Nat → Prop) (x : S43)  : k43.M w base ok x [.int .i64 x.f0, .int .i64 x.f1, .int .i64 x.f2, .string x.f3] := ⟨[.int .i64 x.f0], [.int .i64 x.f1, .int .i64 x.f2, .string x.f3], rfl, rfl, ⟨[.int .i64 x.f1], [.int .i64 x.f2, .string x.f3], rfl, rfl, ⟨[.int .i64 x.f2], [.string x.f3], rfl, rfl, rfl⟩⟩⟩
theorem k43_mkF (W : World) (ok : Nat → Prop) (x : S43) : Kd.FK k43 W ok x [.int .i64 x.f0, .int .i64 x.f1, .int .i64 x.f2, .string x.f3] := fun W2 _ => k43_mk W2 x
def rd_T43 (xs : List S43) (i : Int) : S43 := xs.getD i.toNat z43
theorem at_T43 {w : World} {A : Option Addr} {n : Nat} {xs : List S43} (h : Kd.C k43 w A n xs) (i : Int) (h0 : 0 ≤ i) (h1 : i < n) : ∃ ad , A = some ad ∧ w.cell? (ad.add (i.toNat * 4)) = some (.int .i64 (rd_T43 xs i).f0) ∧ w.cell? ⟨(ad.add (i.toNat * 4)).block, (ad.add (i.toNat * 4)).off + 1, none⟩ = some (.int .i64 (rd_T43 xs i).f1) ∧ w.cell? ⟨(ad.add (i.toNat * 4)).block, (ad.add (i.toNat * 4)).off + 2, none⟩ = some (.int .i64 (rd_T43 xs i).f2) ∧ w.cell? ⟨(ad.add (i.toNat * 4)).block, (ad.add (i.toNat * 4)).off + 3, none⟩ = some (.string (rd_T43 xs i).f3) := by
  obtain ⟨ad, c, e, _, hK, hc0⟩ := Kd.C_get h z43 i h0 h1
  have hc : ∀ j u, c[j]? = some u → w.cell? (ad.add (i.toNat * 4 + j)) = some u := hc0
  obtain rfl := k43_open hK
  exact ⟨ad, e, hc 0 _ rfl, by rw [← add_field _ _ 1 (by omega)]; exact hc 1 _ rfl, by rw [← add_field _ _ 2 (by omega)]; exact hc 2 _ rfl, by rw [← add_field _ _ 3 (by omega)]; exact hc 3 _ rfl⟩

/-! #### struct type 51 -/
structure S51 where
  f0 : ByteArray
  f1 : Int
  f2 : Int
  f3 : ByteArray
def z51 : S51 := ⟨(⟨#[]⟩ : ByteArray), (0 : Int), (0 : Int), (⟨#[]⟩ : ByteArray)⟩
def k51 : Kd S51 := Kd.iso (Kd.pair Kd.string (Kd.pair (Kd.int .i64) (Kd.pair (Kd.int .i64) Kd.string))) (fun x : S51 => (x.f0, x.f1, x.f2, x.f3))
theorem k51_open {w : World} {x : S51} {cs : List Value} (h : k51.K w x cs) : cs = [.string x.f0, .int .i64 x.f1, .int .i64 x.f2, .string x.f3] := by
  obtain ⟨_, _, rfl, rfl, ⟨_, _, rfl, rfl, ⟨_, _, rfl, rfl, rfl⟩⟩⟩ := h
  exact rfl
theorem k51_openM {w : World} {base : Nat} {ok : Nat → Prop} {x : S51} {cs : List Value} (h : k51.M w base ok x cs) : cs = [.string x.f0, .int .i64 x.f1, .int .i64 x.f2, .string x.f3] := by
  obtain ⟨_, _, rfl, rfl, ⟨_, _, rfl, rfl, ⟨_, _, rfl, rfl, rfl⟩⟩⟩ := h
  exact rfl
theorem k51_mk (w : World) (x : S51)  : k51.K w x [.string x.f0, .int .i64 x.f1, .int .i64 x.f2, .string x.f3] := ⟨[.string x.f0], [.int .i64 x.f1, .int .i64 x.f2, .string x.f3], rfl, rfl, ⟨[.int .i64 x.f1], [.int .i64 x.f2, .string x.f3], rfl, rfl, ⟨[.int .i64 x.f2], [.string x.f3], rfl, rfl, rfl⟩⟩⟩
theorem k51_mkM (w : World) (base : Nat) (ok : Nat → Prop) (x : S51)  : k51.M w base ok x [.string x.f0, .int .i64 x.f1, .int .i64 x.f2, .string x.f3] := ⟨[.string x.f0], [.int .i64 x.f1, .int .i64 x.f2, .string x.f3], rfl, rfl, ⟨[.int .i64 x.f1], [.int .i64 x.f2, .string x.f3], rfl, rfl, ⟨[.int .i64 x.f2], [.string x.f3], rfl, rfl, rfl⟩⟩⟩
theorem k51_mkF (W : World) (ok : Nat → Prop) (x : S51) : Kd.FK k51 W ok x [.string x.f0, .int .i64 x.f1, .int .i64 x.f2, .string x.f3] := fun W2 _ => k51_mk W2 x
def rd_T51 (xs : List S51) (i : Int) : S51 := xs.getD i.toNat z51
theorem at_T51 {w : World} {A : Option Addr} {n : Nat} {xs : List S51} (h : Kd.C k51 w A n xs) (i : Int) (h0 : 0 ≤ i) (h1 : i < n) : ∃ ad , A = some ad ∧ w.cell? (ad.add (i.toNat * 4)) = some (.string (rd_T51 xs i).f0) ∧ w.cell? ⟨(ad.add (i.toNat * 4)).block, (ad.add (i.toNat * 4)).off + 1, none⟩ = some (.int .i64 (rd_T51 xs i).f1) ∧ w.cell? ⟨(ad.add (i.toNat * 4)).block, (ad.add (i.toNat * 4)).off + 2, none⟩ = some (.int .i64 (rd_T51 xs i).f2) ∧ w.cell? ⟨(ad.add (i.toNat * 4)).block, (ad.add (i.toNat * 4)).off + 3, none⟩ = some (.string (rd_T51 xs i).f3) := by
  obtain ⟨ad, c, e, _, hK, hc0⟩ := Kd.C_get h z51 i h0 h1
  have hc : ∀ j u, c[j]? = some u → w.cell? (ad.add (i.toNat * 4 + j)) = some u := hc0
  obtain rfl := k51_open hK
  exact ⟨ad, e, hc 0 _ rfl, by rw [← add_field _ _ 1 (by omega)]; exact hc 1 _ rfl, by rw [← add_field _ _ 2 (by omega)]; exact hc 2 _ rfl, by rw [← add_field _ _ 3 (by omega)]; exact hc 3 _ rfl⟩

def rd_L5 (xs : List (List S43)) (i : Int) : (List S43) := xs.getD i.toNat ([] : List S43)
theorem at_L5 {w : World} {A : Option Addr} {n : Nat} {xs : List (List S43)} (h : Kd.C (Kd.slice 43 k43) w A n xs) (i : Int) (h0 : 0 ≤ i) (h1 : i < n) : ∃ ad A0 c0, A = some ad ∧ w.cell? (ad.add i.toNat) = some (.slice A0 (rd_L5 xs i).length c0) ∧ (rd_L5 xs i).length ≤ c0 ∧ k43.C w A0 (rd_L5 xs i).length (rd_L5 xs i) := by
  obtain ⟨ad, c, e, _, hK, hc0⟩ := Kd.C_get h ([] : List S43) i h0 h1
  have hc : ∀ j u, c[j]? = some u → w.cell? (ad.add (i.toNat * 1 + j)) = some u := hc0
  obtain ⟨A0, c0, rfl, l0, g0⟩ := hK
  exact ⟨ad, A0, c0, e, by have hq := hc 0 _ rfl; rwa [Nat.mul_one, Nat.add_zero] at hq, l0, g0⟩

end Go.Proofs.YtkhdejefolegpaaDoor.Q
