/- ref26.Add and ref26.SameInts, as plain functions on lists: a number put into an ascending list, once. -/
import Derived.Test.YtkhdejefolegpaaDoorQx2
import Derived.Test.YtkhdejefolegpaaDoorQx1
import Derived.Test.YtkhdejefolegpaaDoorKaMill
namespace Go.Proofs.YtkhdejefolegpaaDoor.Q
open Go.RowKit Go.Proofs.YtkhdejefolegpaaDoorW.PrintWords
set_option linter.unusedVariables false
set_option linter.unusedSimpArgs false

def Asc (l : List Int) : Prop := l.Pairwise (· < ·)
theorem asc_ext : ∀ {l m : List Int}, Asc l → Asc m → (∀ x, x ∈ l ↔ x ∈ m) → l = m
  | [], [], _, _, _ => rfl
  | [], y :: m, _, _, h => by have := (h y).2 List.mem_cons_self; cases this
  | x :: l, [], _, _, h => by have := (h x).1 List.mem_cons_self; cases this
  | x :: l, y :: m, hl, hm, h => by
    obtain ⟨h1, h2⟩ := List.pairwise_cons.1 hl
    obtain ⟨h3, h4⟩ := List.pairwise_cons.1 hm
    have hxy : x = y := by
      rcases List.mem_cons.1 ((h x).1 List.mem_cons_self) with h5 | h5
      · exact h5
      · rcases List.mem_cons.1 ((h y).2 List.mem_cons_self) with h6 | h6
        · exact h6.symm
        · have := h3 x h5
          have := h1 y h6
          omega
    subst hxy
    rw [asc_ext h2 h4 (fun z => ?_)]
    constructor
    · intro hz
      rcases List.mem_cons.1 ((h z).1 (List.mem_cons_of_mem _ hz)) with h5 | h5
      · have := h1 z hz; omega
      · exact h5
    · intro hz
      rcases List.mem_cons.1 ((h z).2 (List.mem_cons_of_mem _ hz)) with h5 | h5
      · have := h3 z hz; omega
      · exact h5

def addR (n : Int) : Bool → List Int → List Int
  | true, [] => []
  | false, [] => [n]
  | true, x :: l => if x = n then addR n true l else x :: addR n true l
  | false, x :: l => if n ≤ x then n :: (if x = n then addR n true l else x :: addR n true l) else if x = n then addR n false l else x :: addR n false l
theorem addR_true (n : Int) : ∀ l : List Int, addR n true l = l.filter (fun x => decide (x ≠ n))
  | [] => rfl
  | x :: l => by
    simp only [addR, addR_true n l, List.filter_cons]
    by_cases h : x = n <;> simp [h]
theorem addR_mem_true (n : Int) (l : List Int) (x : Int) : x ∈ addR n true l ↔ x ∈ l ∧ x ≠ n := by
  rw [addR_true, List.mem_filter]
  simp
theorem addR_mem (n : Int) (x : Int) : ∀ l : List Int, x ∈ addR n false l ↔ x = n ∨ x ∈ l
  | [] => by simp [addR]
  | y :: l => by
    have ih := addR_mem n x l
    have it := addR_mem_true n l x
    simp only [addR]
    by_cases h1 : n ≤ y
    · rw [if_pos h1]
      by_cases h2 : y = n
      · subst h2
        rw [if_pos rfl, List.mem_cons, it, List.mem_cons]
        constructor
        · rintro (h | ⟨h, _⟩)
          · exact .inl h
          · exact .inr (.inr h)
        · rintro (h | h | h)
          · exact .inl h
          · exact .inl h
          · by_cases h3 : x = y
            · exact .inl h3
            · exact .inr ⟨h, h3⟩
      · rw [if_neg h2, List.mem_cons, List.mem_cons, it, List.mem_cons]
        constructor
        · rintro (h | h | ⟨h, _⟩)
          · exact .inl h
          · exact .inr (.inl h)
          · exact .inr (.inr h)
        · rintro (h | h | h)
          · exact .inl h
          · exact .inr (.inl h)
          · by_cases h3 : x = n
            · exact .inl h3
            · exact .inr (.inr ⟨h, h3⟩)
    · rw [if_neg h1, if_neg (by omega), List.mem_cons, ih, List.mem_cons]
      constructor
      · rintro (h | h | h)
        · exact .inr (.inl h)
        · exact .inl h
        · exact .inr (.inr h)
      · rintro (h | h | h)
        · exact .inr (.inl h)
        · exact .inl h
        · exact .inr (.inr h)
theorem addR_asc (n : Int) : ∀ {l : List Int}, Asc l → Asc (addR n false l)
  | [], _ => by simp [addR, Asc]
  | y :: l, h => by
    obtain ⟨h1, h2⟩ := List.pairwise_cons.1 h
    have ht : Asc (addR n true l) := by rw [addR_true]; exact h2.sublist List.filter_sublist
    have hm := addR_mem_true n l
    simp only [addR]
    by_cases h3 : n ≤ y
    · rw [if_pos h3]
      by_cases h4 : y = n
      · rw [if_pos h4]
        refine List.pairwise_cons.2 ⟨fun z hz => ?_, ht⟩
        have := h1 z ((hm z).1 hz).1
        omega
      · rw [if_neg h4]
        refine List.pairwise_cons.2 ⟨fun z hz => ?_, List.pairwise_cons.2 ⟨fun z hz => h1 z ((hm z).1 hz).1, ht⟩⟩
        rcases List.mem_cons.1 hz with rfl | hz
        · omega
        · have := h1 z ((hm z).1 hz).1
          omega
    · rw [if_neg h3, if_neg (by omega)]
      refine List.pairwise_cons.2 ⟨fun z hz => ?_, addR_asc n h2⟩
      rcases (addR_mem n z l).1 hz with rfl | hz
      · omega
      · exact h1 z hz
theorem addR_len_true (n : Int) (l : List Int) : (addR n true l).length ≤ l.length := by rw [addR_true]; exact List.length_filter_le _ _
theorem addR_len (n : Int) : ∀ l : List Int, (addR n false l).length ≤ l.length + 1
  | [] => by simp [addR]
  | y :: l => by
    have ih := addR_len n l
    have it := addR_len_true n l
    simp only [addR]
    split
    · split <;> simp only [List.length_cons] <;> omega
    · split <;> simp only [List.length_cons] <;> omega

theorem Ev.pos {α : Type} {c : Prop} [Decidable c] {f g : Nat → Option α} {r : α} (h : c) (e : Ev f r) : Ev (fun k => if c then f k else g k) r := by simpa only [if_pos h] using e
theorem Ev.neg {α : Type} {c : Prop} [Decidable c] {f g : Nat → Option α} {r : α} (h : ¬ c) (e : Ev g r) : Ev (fun k => if c then f k else g k) r := by simpa only [if_neg h] using e

theorem drop_at {l : List Int} {i : Nat} (h : i < l.length) : l.drop i = rd l (i : Int) :: l.drop (i + 1) := by
  rw [List.drop_eq_getElem_cons h]
  simp [rd, List.getD_eq_getElem?_getD, List.getElem?_eq_getElem h]

theorem add_loop (n : Int) (l : List Int) (hl : l.length < 17592186044415) : ∀ (d i : Nat) (out : List Int) (b : Bool), l.length - i = d → i ≤ l.length → out.length + d + (if b = true then 0 else 1) < 17592186044416 →
    Ev (fun k => kauditref26_Add.l0 k n out b l (l.length : Int) (i : Int)) (out ++ addR n b (l.drop i))
  | 0, i, out, b, hd, hi, ho => by
    refine Ev.step (fun k => by rw [kauditref26_Add.l0]) ?_
    refine Ev.neg (by omega) ?_
    rw [List.drop_eq_nil_of_le (by omega)]
    cases b with
    | true => refine Ev.pos rfl ?_; simpa [addR] using Ev.now out
    | false => simp only [Bool.false_eq_true, if_false] at ho; refine Ev.neg (by simp) (Ev.pos (by omega) ?_); simpa [addR] using Ev.now (out ++ [n])
  | d + 1, i, out, b, hd, hi, ho => by
    have hlt : i < l.length := by omega
    have hw : wrap64 ((i : Int) + 1) = ((i + 1 : Nat) : Int) := by rw [w64 (by omega) (by omega)]; omega
    refine Ev.step (fun k => by rw [kauditref26_Add.l0]) ?_
    refine Ev.pos (by omega) (Ev.pos (by omega) (Ev.pos (by omega) ?_))
    rw [drop_at hlt]
    cases b with
    | true =>
      simp only [if_true] at ho
      refine Ev.pos rfl ?_
      refine Ev.step (fun k => by rw [kauditref26_Add.j1]) ?_
      refine Ev.neg (by simp) ?_
      rw [hw]
      simp only [addR]
      by_cases hx : rd l i = n
      · refine Ev.pos hx ?_
        rw [if_pos hx]
        exact add_loop n l hl d (i + 1) out true (by omega) (by omega) (by simp; omega)
      · refine Ev.neg hx (Ev.pos (by omega) ?_)
        rw [if_neg hx]
        have := add_loop n l hl d (i + 1) (out ++ [rd l i]) true (by omega) (by omega) (by simp; omega)
        simpa [List.append_assoc] using this
    | false =>
      simp only [Bool.false_eq_true, if_false] at ho
      refine Ev.neg (by simp) ?_
      refine Ev.step (fun k => by rw [kauditref26_Add.j1]) ?_
      rw [hw]
      simp only [addR]
      by_cases hle : n ≤ rd l i
      · refine Ev.pos (by simpa using hle) (Ev.pos (by omega) ?_)
        rw [if_pos hle]
        simp only [Option.bind_some]
        by_cases hx : rd l i = n
        · refine Ev.pos hx ?_
          rw [if_pos hx]
          have := add_loop n l hl d (i + 1) (out ++ [n]) true (by omega) (by omega) (by simp; omega)
          simpa [List.append_assoc] using this
        · refine Ev.neg hx (Ev.pos (by simp; omega) ?_)
          rw [if_neg hx]
          have := add_loop n l hl d (i + 1) (out ++ [n] ++ [rd l i]) true (by omega) (by omega) (by simp; omega)
          simpa [List.append_assoc] using this
      · refine Ev.neg (by simpa using hle) ?_
        rw [if_neg hle]
        by_cases hx : rd l i = n
        · omega
        · refine Ev.neg hx (Ev.pos (by omega) ?_)
          rw [if_neg hx]
          have := add_loop n l hl d (i + 1) (out ++ [rd l i]) false (by omega) (by omega) (by simp; omega)
          simpa [List.append_assoc] using this

theorem add_ev (n : Int) (l : List Int) (hl : l.length < 17592186044414) : Ev (fun k => kauditref26_Add.f k l n) (addR n false l) := by
  have := add_loop n l (by omega) l.length 0 [] false (by omega) (by omega) (by simp; omega)
  simpa [kauditref26_Add.f] using this

theorem same_loop (l : List Int) (hl : l.length < 9223372036854775807) : ∀ (d i : Nat), l.length - i = d → i ≤ l.length → Ev (fun k => kauditref26_SameInts.l0 k l l (l.length : Int) (i : Int)) true
  | 0, i, hd, hi => by
    refine Ev.step (fun k => by rw [kauditref26_SameInts.l0]) (Ev.neg (by omega) (Ev.now _))
  | d + 1, i, hd, hi => by
    have hw : wrap64 ((i : Int) + 1) = ((i + 1 : Nat) : Int) := by rw [w64 (by omega) (by omega)]; omega
    refine Ev.step (fun k => by rw [kauditref26_SameInts.l0]) (Ev.pos (by omega) (Ev.pos (by omega) (Ev.pos (by omega) (Ev.pos (by omega) (Ev.pos rfl ?_)))))
    rw [hw]
    exact same_loop l hl d (i + 1) (by omega) (by omega)
theorem same_ev (l : List Int) (hl : l.length < 9223372036854775807) : Ev (fun k => kauditref26_SameInts.f k l l) true := by
  have := same_loop l hl l.length 0 (by omega) (by omega)
  refine Ev.congr (fun k => by rw [kauditref26_SameInts.f]) (Ev.pos rfl ?_)
  simpa using this
end Go.Proofs.YtkhdejefolegpaaDoor.Q
