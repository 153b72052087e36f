/- sessions: one session's block with its two sets, and what 'add' and 'gone' leave. -/
import Derived.WalkKit
import Derived.Maps.RangeRun
import Derived.Maps.Range
import Derived.Lib.Hide
import Derived.Great.Walk
import Derived.Test.YtjgehecnamadcaaDoorProg
import Derived.Test.YtjgehecnamadcaaDoorKaMap
namespace Go.Proofs.YtjgehecnamadcaaDoor.KaSes
set_option linter.unusedVariables false
set_option linter.unusedSimpArgs false
open Go.RowKit Go.Proofs.YtjgehecnamadcaaDoor.KaMap
theorem uMB : Tryd.prog.underlying 66 = some (.map 3 4) := by kernel_rfl
theorem uMS : Tryd.prog.underlying 52 = some (.map 3 64) := by kernel_rfl
theorem uI : Tryd.prog.underlying 3 = some (.int .i64) := by kernel_rfl
def put (k : Int) (l : List Int) : List Int := if k ∈ l then l else l ++ [k]
/-- A process is put into a set. -/
theorem set_put {w : World} {b : Nat} {ks : List Int} (k : Int) (h : IsSet w b ks) :
    ∃ o, (Instr.mapUpdate 66 (.map (some b)) (.int .i64 k) (.bool true)).run Tryd.prog w = .ok () (w.putObj b o) ∧ IsSet (w.putObj b o) b (put k ks) := by
  unfold put IsSet
  by_cases hk : k ∈ ks
  · rw [if_pos hk]
    obtain ⟨j, hj, e⟩ := List.mem_iff_getElem.1 hk
    obtain ⟨o, h1, h2⟩ := put_old (.bool true) uMB uI h (show ks[j]? = some k by rw [← e]; exact List.getElem?_eq_getElem hj)
    refine ⟨o, h1, ?_⟩
    have : (ks.map fun _ => Value.bool true).set j (.bool true) = ks.map fun _ => Value.bool true := by
      apply List.ext_getElem?
      intro i
      rw [List.getElem?_set]
      by_cases e2 : j = i
      · subst e2; simp [hj]
      · simp [e2]
    rw [this] at h2
    exact h2
  · rw [if_neg hk]
    obtain ⟨o, h1, h2⟩ := put_new (.bool true) uMB uI h hk
    refine ⟨o, h1, ?_⟩
    simpa using h2
def sesCells (id au fi la ev fa : Int) (p q : Nat) : Array Value := #[.int .i64 id, .int .i64 au, .int .i64 fi, .int .i64 la, .int .i64 ev, .int .i64 fa, .int .i64 0, .slice none 0 0, .slice none 0 0, .map (some p), .map (some q)]
set_option maxRecDepth 100000 in
set_option maxHeartbeats 1000000 in
theorem add_calls {w : World} {b p q : Nat} {cs : Array Value} {ps qs : List Int} (k : Int) (hb : w.heap[b]? = some (.cells cs 68 (0, 0))) (h9 : cs[9]? = some (.map (some p))) (h10 : cs[10]? = some (.map (some q))) (hp : IsSet w p ps) (hq : IsSet w q qs) (hbp : b ≠ p) (hpq : q ≠ p) :
    Calls Tryd.prog 41 #[.pointer (some ⟨b, 0, none⟩), .int .i64 k] w fun e w' => e = .returned (.tuple #[]) ∧ ∃ o1 o2, w' = (w.putObj p o1).putObj q o2 ∧ IsSet w' p (put k ps) ∧ IsSet w' q (put k qs) := by
  obtain ⟨o1, r1, s1⟩ := set_put k hp
  obtain ⟨o2, r2, s2⟩ := set_put k (hq.move (w' := w.putObj p o1) (put_other hpq))
  have hb1 : (w.putObj p o1).heap[b]? = some (.cells cs 68 (0, 0)) := (put_other hbp).trans hb
  have c9 : w.cell? ⟨b, 9, none⟩ = some (.map (some p)) := by simp [World.cell?, hb, h9]
  have c10 : (w.putObj p o1).cell? ⟨b, 10, none⟩ = some (.map (some q)) := by simp [World.cell?, hb1, h10]
  go_enter Tryd.func41, Tryd.ntmps41
  go_wp2
  refine Go.Great.bodyPost_end0 rfl rfl ?_
  exact ⟨rfl, o1, o2, rfl, s1.move (put_other (fun e => hpq e.symm)), s2⟩
/-- One session: its block, its two sets' blocks, and what they hold. -/
structure Ses where
  b : Nat
  p : Nat
  q : Nat
  id : Int
  au : Int
  fi : Int
  la : Int
  ev : Int
  fa : Int
  ps : List Int
  qs : List Int
def Ses.ptr (c : Ses) : Value := .pointer (some ⟨c.b, 0, none⟩)
def Ses.foot (c : Ses) : List Nat := [c.b, c.p, c.q]
def Ses.cells (c : Ses) : Array Value := sesCells c.id c.au c.fi c.la c.ev c.fa c.p c.q
def One (w : World) (c : Ses) : Prop := w.heap[c.b]? = some (.cells c.cells 68 (0, 0)) ∧ IsSet w c.p c.ps ∧ IsSet w c.q c.qs
/-- All blocks are different ones. -/
def Apart (m : Nat) (L : List Ses) : Prop := (∀ c ∈ L, m ∉ c.foot ∧ c.foot.Nodup) ∧ L.Pairwise fun a b => ∀ x ∈ a.foot, x ∉ b.foot
def St (w : World) (m : Nat) (L : List Ses) : Prop := IsMap w m (L.map (·.id)) (L.map (·.ptr)) ∧ (∀ c ∈ L, One w c) ∧ Apart m L
def drop (k : Int) (c : Ses) : Ses := { c with qs := c.qs.filter fun x => decide (x ≠ k) }
def Kp (w W : World) (S : Nat → Prop) : Prop := w.heap.size ≤ W.heap.size ∧ ∀ i, i < w.heap.size → ¬ S i → W.heap[i]? = w.heap[i]?
/-- What no block holds stands. -/
def Same (w W : World) : Prop := W.os = w.os ∧ W.tape = w.tape ∧ W.output = w.output
theorem Same.trans {a b c : World} (h : Same a b) (k : Same b c) : Same a c := ⟨k.1.trans h.1, k.2.1.trans h.2.1, k.2.2.trans h.2.2⟩
theorem left_lt {es : Array MapEntry} {seen : Array Nat} {e : MapEntry} (h : e ∈ (leftOf es seen).toList) : (leftOf es (seen.push e.born)).size < (leftOf es seen).size := by
  have e1 : leftOf es (seen.push e.born) = (leftOf es seen).filter (fun x => !(x.born == e.born)) := by
    unfold leftOf
    rw [Array.filter_filter]
    congr 1
    funext x
    by_cases h1 : x.born = e.born <;> simp [h1]
  rw [e1]
  have h2 := (List.length_filter_lt_length_iff_exists (p := fun x : MapEntry => !(x.born == e.born)) (l := (leftOf es seen).toList)).2 ⟨e, h, by simp⟩
  have e2 : ∀ (p : MapEntry → Bool) (A : Array MapEntry), (A.filter p).size = (A.toList.filter p).length := fun p A => (Array.length_toList (xs := A.filter p)).symm.trans (congrArg List.length Array.toList_filter)
  rw [e2]
  exact h2
theorem One.lt {w : World} {c : Ses} (h : One w c) : c.b < w.heap.size ∧ c.p < w.heap.size ∧ c.q < w.heap.size := ⟨(Array.getElem?_eq_some_iff.1 h.1).1, IsMap.lt h.2.1, IsMap.lt h.2.2⟩
theorem One.move {w w' : World} {c : Ses} (h : One w c) (h1 : w'.heap[c.b]? = w.heap[c.b]?) (h2 : w'.heap[c.p]? = w.heap[c.p]?) (h3 : w'.heap[c.q]? = w.heap[c.q]?) : One w' c :=
  ⟨h1.trans h.1, IsMap.move h.2.1 h2, IsMap.move h.2.2 h3⟩
theorem Apart.drop {L : List Ses} {m : Nat} {k : Int} (h : Apart m L) : Apart m (L.map (drop k)) := by
  refine ⟨fun c hc => ?_, List.pairwise_map.2 (h.2.imp fun h => h)⟩
  obtain ⟨c0, hc0, rfl⟩ := List.mem_map.1 hc
  exact h.1 c0 hc0
theorem Apart.at_ {L : List Ses} {m : Nat} (h : Apart m L) {i j : Nat} (hi : i < L.length) (hj : j < L.length) (hne : i ≠ j) : ∀ x ∈ L[i].foot, x ∉ L[j].foot := by
  intro x hx hx2
  rcases Nat.lt_or_gt_of_ne hne with hlt | hlt
  · exact (List.pairwise_iff_getElem.1 h.2 i j hi hj hlt) x hx hx2
  · exact (List.pairwise_iff_getElem.1 h.2 j i hj hi hlt) x hx2 hx
set_option maxRecDepth 100000 in
set_option maxHeartbeats 1000000 in
theorem gone_calls {w : World} {m : Nat} {L : List Ses} (k : Int) (hS : St w m L) :
    Calls Tryd.prog 42 #[.agg #[.map (some m)], .int .i64 k] w fun e w' => e = .returned (.tuple #[]) ∧ St w' m (L.map (drop k)) ∧ Kp w w' (fun i => ∃ c ∈ L, i = c.q) ∧ Same w w' := by
  obtain ⟨⟨es, clk, hb, hst, hk, hv⟩, hO, hN⟩ := hS
  have hlt : m < w.heap.size := (Array.getElem?_eq_some_iff.1 hb).1
  have hrng := run_range_map (P := Tryd.prog) (w.alloc (.cells #[.map (some m)] 54)) 52 3 64 m es clk uMS (((MapKept.heap_alloc w _).2 m hlt).trans hb)
  go_enter Tryd.func42, Tryd.ntmps42
  go_wp2
  obtain ⟨gb, hgb⟩ : ∃ n, n = w.heap.size := ⟨_, rfl⟩
  rw [← hgb]
  obtain ⟨W0, hW0⟩ : ∃ W, W = (w.alloc (.cells #[.map (some m)] 54)).alloc (.mapIter (some m) clk #[] clk) := ⟨_, rfl⟩
  rw [← hW0]
  have hsz : W0.heap.size = w.heap.size + 2 := by rw [hW0]; simp
  have h0 : ∀ j, j < w.heap.size → W0.heap[j]? = w.heap[j]? := by
    intro j hj
    rw [hW0]
    rw [(MapKept.heap_alloc _ _).2 j (by simp; omega), (MapKept.heap_alloc _ _).2 j hj]
  have hr0 : W0.heap[gb + 1]? = some (.mapIter (some m) clk #[] clk) := by
    rw [hW0, hgb]
    have := (MapKept.heap_alloc (w.alloc (.cells #[.map (some m)] 54)) (.mapIter (some m) clk #[] clk)).1
    simpa using this
  have hbnd : ∀ c ∈ L, c.b < w.heap.size ∧ c.p < w.heap.size ∧ c.q < w.heap.size := fun c hc => (hO c hc).lt
  go_loopw [5] (fun _ wr => ∃ seen : Array Nat, wr.heap[m]? = some (.map es clk) ∧ wr.heap[gb + 1]? = some (.mapIter (some m) clk seen clk) ∧ (∀ i (hi : i < L.length), ∃ c, (c = L[i] ∨ c = drop k L[i]) ∧ One wr c ∧ (∀ e, es.toList[i]? = some e → seen.contains e.born = true → c = drop k L[i])) ∧ Kp w wr (fun i => ∃ c ∈ L, i = c.q) ∧ Same w wr) (fun _ wr => wr.rangeLeft m (gb + 1))
  case atStart =>
    refine ⟨#[], (h0 m hlt).trans hb, hr0, fun i hi => ⟨L[i], .inl rfl, (hO _ (List.getElem_mem hi)).move (h0 _ (hbnd _ (List.getElem_mem hi)).1) (h0 _ (hbnd _ (List.getElem_mem hi)).2.1) (h0 _ (hbnd _ (List.getElem_mem hi)).2.2), fun e _ h => by simp at h⟩, ⟨by omega, fun i hi _ => h0 i hi⟩, by rw [hW0]; exact ⟨rfl, rfl, rfl⟩⟩
  case round =>
    obtain ⟨seen, hm, hr, hc, hK, hSm⟩ := hrel
    rcases run_next_at (P := Tryd.prog) wr 0 (gb + 1) m clk clk seen es clk hr hm hst.1 (Nat.le_refl _) with ⟨hl0, hn⟩ | ⟨e, he, w1, hw1, hn⟩
    · have HG := Lib.hid hgb
      clear hgb hW0
      go_wp2
      refine Go.Great.bodyPost_end0 rfl rfl ⟨rfl, ⟨⟨es, clk, hm, hst, by rw [hk]; simp [drop, Function.comp_def], by rw [hv]; simp [drop, Ses.ptr, Function.comp_def]⟩, ?_, hN.drop⟩, hK, hSm⟩
      intro c' hc'
      obtain ⟨c0, hc0, rfl⟩ := List.mem_map.1 hc'
      obtain ⟨i, hi, rfl⟩ := List.mem_iff_getElem.1 hc0
      obtain ⟨c, hcc, hone, hdone⟩ := hc i hi
      have hie : i < es.toList.length := by have := congrArg List.length hv; simp at this ⊢; omega
      have := hdone es.toList[i] (List.getElem?_eq_getElem hie) (by
        cases h : seen.contains es.toList[i].born with
        | true => rfl
        | false =>
          have hm : es.toList[i] ∈ leftOf es seen := by
            unfold leftOf
            rw [Array.mem_filter]
            exact ⟨Array.mem_toList_iff.1 (List.getElem_mem hie), by rw [h]; rfl⟩
          rw [Array.eq_empty_of_size_eq_zero hl0] at hm
          simp at hm)
      rw [← this]
      exact hone
    · have hes : e ∈ es.toList ∧ seen.contains e.born = false := by
        have : e ∈ leftOf es seen := Array.mem_toList_iff.1 he
        unfold leftOf at this
        simpa using this
      obtain ⟨i, hi, hie⟩ := List.mem_iff_getElem.1 hes.1
      have hiL : i < L.length := by have := congrArg List.length hv; simp at this hi; omega
      have hval : e.val = L[i].ptr := by
        have := congrArg (fun l => l[i]?) hv
        simp only [List.getElem?_map, List.getElem?_eq_getElem hi, List.getElem?_eq_getElem hiL, Option.map_some, Option.some.injEq] at this
        rw [← this, hie]
      obtain ⟨c, hcc, hone, hdone⟩ := hc i hiL
      have hcb : c.b = L[i].b := by rcases hcc with rfl | rfl <;> rfl
      have hcp : c.p = L[i].p := by rcases hcc with rfl | rfl <;> rfl
      have hcq : c.q = L[i].q := by rcases hcc with rfl | rfl <;> rfl
      have hdr : drop k c = drop k L[i] := by
        rcases hcc with h | h
        · rw [h]
        · rw [h]; simp [drop, List.filter_filter]
      have hbi := hbnd _ (List.getElem_mem hiL)
      obtain ⟨w2, hw2⟩ : ∃ W, W = Go.ChangeMaps.setBlock w1 (gb + 1) (.mapIter (some m) clk (seen.push e.born) clk) := ⟨_, rfl⟩
      rw [← hw2] at hn
      have hsz1 : w1.heap = wr.heap := by rcases hw1 with rfl | rfl <;> rfl
      have hgr : gb + 1 < wr.heap.size := (Array.getElem?_eq_some_iff.1 hr).1
      have hsame : ∀ j, j ≠ gb + 1 → w2.heap[j]? = wr.heap[j]? := by
        intro j hj
        rw [hw2, ← hsz1]
        simp [Go.ChangeMaps.setBlock, Ne.symm hj]
      have hr2 : w2.heap[gb + 1]? = some (.mapIter (some m) clk (seen.push e.born) clk) := by
        rw [hw2]
        simp [Go.ChangeMaps.setBlock, hsz1, hgr]
      have hsz2 : w2.heap.size = wr.heap.size := by rw [hw2, ← hsz1]; simp [Go.ChangeMaps.setBlock]
      have hone2 : One w2 c := hone.move (hsame _ (by omega)) (hsame _ (by omega)) (hsame _ (by omega))
      have hent := run_entry_at (P := Tryd.prog) w2 (gb + 1) m clk seen es clk e hr2 ((hsame m (by omega)).trans hm) hes.1 hst.2.1
      rw [hval] at hn hent
      have hcell : w2.cell? ⟨L[i].b, 10, none⟩ = some (.map (some c.q)) := by
        rw [← hcb]
        simp [World.cell?, hone2.1, Ses.cells, sesCells]
      obtain ⟨o, hdel, hset⟩ := KaMap.del (P := Tryd.prog) (k := k) 0 uMB uI hone2.2.2
      unfold Ses.ptr at hn hent
      rw [hcq] at hdel hset
      have hbq : L[i].b ≠ L[i].q ∧ L[i].p ≠ L[i].q := by
        have := (hN.1 _ (List.getElem_mem hiL)).2
        simp [Ses.foot] at this
        exact ⟨this.1.2, this.2⟩
      have hmq : m ≠ L[i].q := fun e => (hN.1 _ (List.getElem_mem hiL)).1 (by simp [Ses.foot, e])
      have HG := Lib.hid hgb
      have HW2 := Lib.hid hw2
      clear hgb hW0 hw2
      go_wp2
      go_roundw
      case rel =>
        refine ⟨seen.push e.born, (put_other hmq).trans ((hsame m (by have := HG.out; omega)).trans hm), (put_other (by have := HG.out; omega)).trans hr2, fun j hj => ?_, ⟨?_, fun i' hi' hnot => ?_⟩, hSm.trans (by rw [HW2.out]; rcases hw1 with rfl | rfl <;> exact ⟨rfl, rfl, rfl⟩)⟩
        · by_cases hij : i = j
          · subst hij
            refine ⟨drop k c, .inr hdr, ⟨?_, ?_, ?_⟩, fun _ _ _ => hdr⟩
            · show (w2.putObj L[i].q o).heap[c.b]? = _
              rw [put_other (by rw [hcb]; exact hbq.1)]
              exact hone2.1
            · show IsSet _ c.p c.ps
              exact IsMap.move hone2.2.1 (put_other (by rw [hcp]; exact hbq.2))
            · show IsSet _ c.q _
              rw [hcq]
              exact hset
          · obtain ⟨c2, hcc2, hone3, hdone2⟩ := hc j hj
            have hft : c2.foot = L[j].foot := by rcases hcc2 with rfl | rfl <;> rfl
            have hne : ∀ x ∈ c2.foot, x ≠ L[i].q := fun x hx e => hN.at_ hj hiL (Ne.symm hij) x (hft ▸ hx) (by rw [e]; simp [Ses.foot])
            have hbj := hbnd _ (List.getElem_mem hj)
            have hlt2 : ∀ x ∈ c2.foot, x ≠ gb + 1 := by
              intro x hx e
              rw [hft] at hx
              have := HG.out
              simp [Ses.foot] at hx
              omega
            have hmv : ∀ x ∈ c2.foot, (w2.putObj L[i].q o).heap[x]? = wr.heap[x]? := fun x hx => (put_other (hne x hx)).trans (hsame x (hlt2 x hx))
            refine ⟨c2, hcc2, hone3.move (hmv _ (by simp [Ses.foot])) (hmv _ (by simp [Ses.foot])) (hmv _ (by simp [Ses.foot])), fun e' he' hs' => ?_⟩
            refine hdone2 e' he' ?_
            rw [Array.contains_push] at hs'
            rcases (Bool.or_eq_true_iff.1 hs').symm with h | h
            · exfalso
              have hborn : e'.born = e.born := by simpa using h
              obtain ⟨hje, hje2⟩ := List.getElem?_eq_some_iff.1 he'
              have := (List.getElem_inj (h₀ := by simpa using hje) (h₁ := by simpa using hi) hst.2.1).1 (by simp [hje2, hie, hborn])
              exact hij this.symm
            · exact h
        · rw [put_size, hsz2]; exact hK.1
        · exact (put_other (fun e => hnot ⟨_, List.getElem_mem hiL, e⟩)).trans ((hsame i' (by have := HG.out; omega)).trans (hK.2 i' hi' hnot))
      case measure =>
        have h1 : (w2.putObj L[i].q o).heap[m]? = some (.map es clk) := (put_other hmq).trans ((hsame m (by have := HG.out; omega)).trans hm)
        have h2 : (w2.putObj L[i].q o).heap[gb + 1]? = some (.mapIter (some m) clk (seen.push e.born) clk) := (put_other (by have := HG.out; omega)).trans hr2
        simp only [World.rangeLeft, h1, h2, hm, hr]
        exact left_lt he
end Go.Proofs.YtjgehecnamadcaaDoor.KaSes
