/- slices.Sorted(maps.Keys(m)) at maps with int keys, by the library's contracts. -/
import Derived.WalkKit
import Derived.Shelf.SlIterI.Nil
import Derived.Maps.Own
import Derived.Test.YtjgehecnamadcaaDoorKaShelf
import Derived.Test.YtjgehecnamadcaaDoorKaMap
namespace Go.Proofs.YtjgehecnamadcaaDoor.KaKeys
set_option linter.unusedVariables false
set_option linter.unusedSimpArgs false
open Go.RowKit Go.Maps Go.Sort Go.Shelf Go.Proofs.YtjgehecnamadcaaDoor.KaMap
open Go.WideElems (Fit rg)
open Go.WideShapes (sorted_perm)
def cR : Value → Option (DataW Unit × List MemPlace) := fun _ => some (.nil, [])
theorem uI : Tryd.prog.underlying 3 = some (.int .i64) := by kernel_rfl
def wf (k : Int) : Prop := (Lit.int .i64 k).wf = true
theorem rd_at {k : Int} {e : MapEntry} (h : e.key = ik k) (hw : wf k) : WideElems.rd Tryd.prog 3 cR e = some (.int .i64 k, .nil) := by
  unfold WideElems.rd
  rw [h, ik, keyOf_int_mk uI hw]
  rfl
set_option maxRecDepth 20000 in
theorem owns {w : World} {b : Nat} {ks : List Int} {vs : List Value} (h : IsMap w b ks vs) (hw : ∀ k ∈ ks, wf k) (hl : ks.length ≤ 1099511627776) :
    ∃ D : DataW Unit, w.ownsMap Tryd.prog 3 cR b ks.length D ∧ (intKeys D).Perm ks ∧ Maps.size D = ks.length := by
  obtain ⟨es, clk, hb, hs, hk, hv⟩ := h
  have hlen : es.size = ks.length := by have := congrArg List.length hk; simpa using this
  have hat : ∀ e ∈ es.toList, ∃ k ∈ ks, e.key = ik k := by
    intro e he
    have : e.key ∈ ks.map ik := by rw [← hk]; exact List.mem_map.2 ⟨e, he, rfl⟩
    obtain ⟨k, h1, h2⟩ := List.mem_map.1 this
    exact ⟨k, h1, h2.symm⟩
  refine ⟨_, ⟨es, clk, hb, ⟨by rw [hlen]; unfold maxLen; omega, hs, fun e he => ?_⟩, Nat.le_of_eq hlen, rfl⟩, ?_, ?_⟩
  · obtain ⟨k, h1, h2⟩ := hat e he
    exact ⟨_, rd_at h2 (hw k h1)⟩
  · show (((es.toList.map (rg Tryd.prog 3 cR)).foldr DataW.insert []).map fun p => _root_.Go.intOf p.1).Perm ks
    refine ((sorted_perm _).map _).trans ?_
    rw [List.map_map]
    have : es.toList.map ((fun p : Lit × DataW Unit => _root_.Go.intOf p.1) ∘ rg Tryd.prog 3 cR) = ks := by
      have h1 : ∀ (l : List MapEntry) (ks : List Int), l.map (·.key) = ks.map ik → (∀ k ∈ ks, wf k) → l.map ((fun p : Lit × DataW Unit => _root_.Go.intOf p.1) ∘ rg Tryd.prog 3 cR) = ks := by
        intro l
        induction l with
        | nil => intro ks h _; simpa using h.symm
        | cons e l ih =>
          intro ks h hw
          cases ks with
          | nil => simp at h
          | cons k ks =>
            simp only [List.map_cons, List.cons.injEq] at h
            simp only [List.map_cons, List.cons.injEq]
            refine ⟨?_, ih ks h.2 (fun k hk => hw k (List.mem_cons_of_mem _ hk))⟩
            have h2 : rg Tryd.prog 3 cR e = (.int .i64 k, .nil) := by
              rw [rg, rd_at h.1 (hw k (by simp)), Option.getD_some]
            simp only [Function.comp_apply, h2, _root_.Go.intOf]
      exact h1 _ _ hk hw
    rw [this]
  · simp [Maps.size, length_sorted, hlen]
theorem keysS (mb : Option Nat) (W : World) : Calls Tryd.prog 24 #[.map mb] W fun e w' => ∃ g, e = .returned (.func (.func g) #[] #[.pointer (some ⟨W.heap.size, 0, none⟩)]) ∧ g = 45 ∧ w' = W.alloc (.cells #[.map mb] 52) :=
  (callsIn_wide (n := 5)).1 ((AnyZI.keys_in Tryd.keysS Fence.wide 5 trivial rfl mb W).mono fun e w' h => ⟨_, h.1, rfl, h.2⟩)
theorem sorts (m : Nat) : AnyZI.SortsIn Tryd.prog Tryd.sortedS_ren Fence.wide m :=
  ⟨fun blk off cap ss W hH hblk hsz => callsIn_wide.2 (Tryd.slices_Sort_int blk off cap ss W hH hblk hsz),
   fun p cap W => callsIn_wide.2 (Tryd.slices_Sort_int_none p cap W)⟩
set_option maxHeartbeats 1000000 in
theorem sortedS {w : World} {b Bm : Nat} {ks : List Int} {vs : List Value} (hM : IsMap w b ks vs) (hw : ∀ k ∈ ks, wf k) (hl : ks.length ≤ 1099511627776) (hBm : Bm < w.heap.size) (hc : w.cell? ⟨Bm, 0, none⟩ = some (.map (some b))) :
    Calls Tryd.prog 23 #[.func (.func 45) #[] #[.pointer (some ⟨Bm, 0, none⟩)]] w fun e w' => ∃ (v : Value) (ss : List Int), e = .returned v ∧ ss.Perm ks ∧ w'.ownsRow w.heap.size 3 1 v ss.length ((ss.mergeSort (fun x y => decide (x ≤ y))).map encZ) ∧ (v = .slice none 0 0 ↔ ss = []) ∧ Below w.heap.size w w' := by
  obtain ⟨D, hown, hp, hsz⟩ := owns hM hw hl
  have hseq : SeqGives Fence.wide 2 Tryd.prog 45 #[.pointer (some ⟨Bm, 0, none⟩)] encZ (fun ss => ss.Perm (intKeys D)) (Maps.size D) w :=
    AnyZI.keys_gives (ρ := Tryd.keysS_ren) { Tryd.keysS with } Fence.wide _ trivial rfl (by omega) Bm b ks.length D w hBm hc hown
  have cS := AnyZI.sorted_in Tryd.sortedS Fence.wide 5 trivial trivial trivial trivial rfl (by omega) (sorts _) (enters_of Tryd.func44 (by kernel_rfl) rfl) 45 #[.pointer (some ⟨Bm, 0, none⟩)] trivial (enters_of Tryd.func45 (by kernel_rfl) rfl) _ _ (by rw [hsz]; unfold maxLen; omega) (by rw [hsz]; omega) _ hseq
  change CallsIn _ _ Tryd.prog 23 _ _ _ at cS
  refine (callsIn_wide (n := 5)).1 (cS.mono fun e w' h => ?_)
  obtain ⟨v, ss, rfl, hS, hrow, hnil, hb⟩ := h
  exact ⟨v, ss, rfl, hS.trans hp, hrow, hnil, hb⟩
set_option maxHeartbeats 1000000 in
theorem sortedB {w : World} {b Bm : Nat} {ks : List Int} {vs : List Value} (hM : IsMap w b ks vs) (hw : ∀ k ∈ ks, wf k) (hl : ks.length ≤ 1099511627776) (hBm : Bm < w.heap.size) (hc : w.cell? ⟨Bm, 0, none⟩ = some (.map (some b))) :
    Calls Tryd.prog 23 #[.func (.func 46) #[] #[.pointer (some ⟨Bm, 0, none⟩)]] w fun e w' => ∃ (v : Value) (ss : List Int), e = .returned v ∧ ss.Perm ks ∧ w'.ownsRow w.heap.size 3 1 v ss.length ((ss.mergeSort (fun x y => decide (x ≤ y))).map encZ) ∧ (v = .slice none 0 0 ↔ ss = []) ∧ Below w.heap.size w w' := by
  obtain ⟨D, hown, hp, hsz⟩ := owns hM hw hl
  have hseq : SeqGives Fence.wide 2 Tryd.prog 46 #[.pointer (some ⟨Bm, 0, none⟩)] encZ (fun ss => ss.Perm (intKeys D)) (Maps.size D) w :=
    AnyZI.keys_gives (ρ := Tryd.keysB_ren) { Tryd.keysB with } Fence.wide _ trivial rfl (by omega) Bm b ks.length D w hBm hc hown
  have cS := AnyZI.sorted_in Tryd.sortedS Fence.wide 5 trivial trivial trivial trivial rfl (by omega) (sorts _) (enters_of Tryd.func44 (by kernel_rfl) rfl) 46 #[.pointer (some ⟨Bm, 0, none⟩)] trivial (enters_of Tryd.func46 (by kernel_rfl) rfl) _ _ (by rw [hsz]; unfold maxLen; omega) (by rw [hsz]; omega) _ hseq
  change CallsIn _ _ Tryd.prog 23 _ _ _ at cS
  refine (callsIn_wide (n := 5)).1 (cS.mono fun e w' h => ?_)
  obtain ⟨v, ss, rfl, hS, hrow, hnil, hb⟩ := h
  exact ⟨v, ss, rfl, hS.trans hp, hrow, hnil, hb⟩
theorem keysB (mb : Option Nat) (W : World) : Calls Tryd.prog 25 #[.map mb] W fun e w' => ∃ g, e = .returned (.func (.func g) #[] #[.pointer (some ⟨W.heap.size, 0, none⟩)]) ∧ g = 46 ∧ w' = W.alloc (.cells #[.map mb] 66) :=
  (callsIn_wide (n := 5)).1 ((AnyZI.keys_in Tryd.keysB Fence.wide 5 trivial rfl mb W).mono fun e w' h => ⟨_, h.1, rfl, h.2⟩)
end Go.Proofs.YtjgehecnamadcaaDoor.KaKeys
