/- The pure statement of RotateNumbers. -/
import Derived.Test.YtadjaakmpjhdhaaDoorQx7
import Derived.Test.YtadjaakmpjhdhaaDoorKaDrop
import Derived.Test.YtadjaakmpjhdhaaDoorKaNames
namespace Go.Proofs.YtadjaakmpjhdhaaDoor.Q.PRotateNumbers
open Go.RowKit Go.Proofs.YtadjaakmpjhdhaaDoorW.PrintWords
set_option linter.unusedVariables false
set_option linter.unusedSimpArgs false

/-- Both read the same numbers, in the same order. -/
theorem numbers (l : List ByteArray) (hl : l.length < 8796093022208) (hs : ∀ s ∈ l, s.size < 9223372036854775807) : ∀ (d i : Nat), l.length - i = d → i ≤ l.length → ∃ rest : List Int, rest.length ≤ d ∧
    (∀ acc : List Int, acc.length + d < 8796093022208 → Ev (fun k => rotate_Numbers.l0 k acc l (l.length : Int) (i : Int)) (uniq (acc ++ rest))) ∧
    (∀ acc : List Int, acc.length + d < 8796093022208 → Ev (fun k => kauditref26_Numbers.l0 k acc l (l.length : Int) (i : Int)) (addAll acc rest))
  | 0, i, hd, hi => by
    refine ⟨[], Nat.le_refl _, fun acc ha => ?_, fun acc ha => ?_⟩
    · refine Ev.step (fun k => by rw [rotate_Numbers.l0]) (Ev.neg (by omega) ?_)
      rw [List.append_nil]
      exact Ev.congr (fun k => by rw [unique_f (by omega), Option.bind_some]) (Ev.now _)
    · rw [addAll]
      exact Ev.step (fun k => by rw [kauditref26_Numbers.l0]) (Ev.neg (by omega) (Ev.now _))
  | d + 1, i, hd, hi => by
    have hlt : i < l.length := by omega
    have hw : wrap64 ((i : Int) + 1) = ((i + 1 : Nat) : Int) := by rw [w64 (by omega) (by omega)]; omega
    obtain ⟨r, e1, e2⟩ := num_ev (rdOf ByteArray.empty l (i : Int)) (hs _ (rdOf_mem hlt))
    obtain ⟨rest, h0, h1, h2⟩ := numbers l hl hs d (i + 1) (by omega) (by omega)
    by_cases hr : r.2.1 = true
    · refine ⟨r.1 :: rest, by simp; omega, fun acc ha => ?_, fun acc ha => ?_⟩
      · refine Ev.step (fun k => by rw [rotate_Numbers.l0]) (Ev.pos (by omega) (Ev.pos (by omega) (Ev.pos (by omega) ?_)))
        refine Ev.bind e1 (Ev.pos hr (Ev.pos (by omega) ?_))
        rw [hw]
        have := h1 (acc ++ [r.1]) (by simp; omega)
        rw [List.append_assoc] at this
        exact this
      · refine Ev.step (fun k => by rw [kauditref26_Numbers.l0]) (Ev.pos (by omega) (Ev.pos (by omega) (Ev.pos (by omega) ?_)))
        refine Ev.bind e2 (Ev.pos hr (Ev.bind (add_ev r.1 acc (by omega)) ?_))
        rw [hw]
        have hlen := addR_len r.1 acc
        exact h2 _ (by omega)
    · refine ⟨rest, by omega, fun acc ha => ?_, fun acc ha => ?_⟩
      · refine Ev.step (fun k => by rw [rotate_Numbers.l0]) (Ev.pos (by omega) (Ev.pos (by omega) (Ev.pos (by omega) ?_)))
        refine Ev.bind e1 (Ev.neg hr ?_)
        rw [hw]
        exact h1 acc (by omega)
      · refine Ev.step (fun k => by rw [kauditref26_Numbers.l0]) (Ev.pos (by omega) (Ev.pos (by omega) (Ev.pos (by omega) ?_)))
        refine Ev.bind e2 (Ev.neg hr ?_)
        rw [hw]
        exact h2 acc (by omega)
theorem both (l : List ByteArray) (hl : l.length < 8796093022208) (hs : ∀ s ∈ l, s.size < 9223372036854775807) : ∃ r : List Int, r.length < 17592186044416 ∧ Ev (fun k => rotate_Numbers.f k l) r ∧ Ev (fun k => kauditref26_Numbers.f k l) r := by
  obtain ⟨rest, h0, h1, h2⟩ := numbers l hl hs l.length 0 (by omega) (by omega)
  refine ⟨uniq rest, ?_, ?_, ?_⟩
  · have := uniq_len rest
    omega
  · have := h1 [] (by simp; omega)
    rw [List.nil_append] at this
    exact Ev.congr (fun k => by rw [rotate_Numbers.f]) (by simpa using this)
  · have := h2 [] (by simp; omega)
    rw [addAll_uniq] at this
    exact Ev.congr (fun k => by rw [kauditref26_Numbers.f]) (by simpa using this)
def texts : List ByteArray := [(⟨#[]⟩ : ByteArray), (⟨#[97]⟩ : ByteArray), (⟨#[97, 110, 110]⟩ : ByteArray), (⟨#[47, 97, 47, 98]⟩ : ByteArray), (⟨#[110, 111]⟩ : ByteArray), (⟨#[121, 101, 115]⟩ : ByteArray), (⟨#[97, 32, 98]⟩ : ByteArray), (⟨#[120, 54, 102]⟩ : ByteArray), (⟨#[0]⟩ : ByteArray), (⟨#[109, 107, 100, 105, 114]⟩ : ByteArray)]
theorem text_f (cs : List Int) (a : Int) : kauditmill_Case_Text.f cs a = (kauditmill_Case_Int.f cs a (texts.length : Int)).bind fun bt => (if 0 ≤ bt.1 then (if bt.1 < (texts.length : Int) then (some (rdOf ByteArray.empty texts bt.1, bt.2)) else (none)) else (none)) := rfl
theorem texts_size : ∀ s ∈ texts, s.size ≤ 10 := by
  intro s hs
  simp only [texts, List.mem_cons, List.not_mem_nil, or_false] at hs
  rcases hs with rfl | rfl | rfl | rfl | rfl | rfl | rfl | rfl | rfl | rfl <;> simp [ByteArray.size]
theorem text_ok {cs : List Int} {a : Int} (h : Ok cs a) : ∃ s b, kauditmill_Case_Text.f cs a = some (s, b) ∧ s.size ≤ 10 ∧ Ok cs b := by
  obtain ⟨r, b, e, h0, hr, _, hb⟩ := int_ok h (texts.length : Int)
  have hlen : texts.length = 10 := rfl
  rw [text_f, e, Option.bind_some, if_pos h0, if_pos (by omega)]
  obtain ⟨n, rfl⟩ := Int.eq_ofNat_of_zero_le h0
  exact ⟨_, _, rfl, texts_size _ (rdOf_mem (by omega)), hb⟩
theorem loop : ∀ (n : Nat) (cs : List Int) (p : Int) (l : List ByteArray), Ok cs p → l.length + 3 * n < 8796093022100 → n < 1000 → (∀ s ∈ l, s.size < 9223372036854775807) →
    Ev (fun k => kauditlaw26_RotateNumbers.l0 k l (n : Int) cs p) true
  | 0, cs, p, l, h, hn, h1, hs => by
    obtain ⟨r, hr, e1, e2⟩ := both l (by omega) hs
    refine Ev.step (fun k => by rw [kauditlaw26_RotateNumbers.l0]) (Ev.neg (by omega) ?_)
    exact Ev.bind e1 (Ev.bind e2 (Ev.bind (same_ev r (by omega)) (Ev.pos rfl (Ev.bind begun_ev (Ev.now _)))))
  | n + 1, cs, p, l, h, hn, h1, hs => by
    obtain ⟨r, p2, e, _, _, _, hp⟩ := int_ok h 9
    obtain ⟨r2, p3, e2, _, _, _, hp2⟩ := int_ok hp 9
    obtain ⟨s, p4, e3, hsz, hp3⟩ := text_ok hp2
    refine Ev.step (fun k => by rw [kauditlaw26_RotateNumbers.l0]) (Ev.pos (by omega) ?_)
    refine Ev.congr (fun k => by rw [e, Option.bind_some, rotate_Name.f, Option.bind_some, e2, Option.bind_some, packed_f, Option.bind_some, e3, Option.bind_some, Option.bind_some]) (Ev.pos (by simp; omega) ?_)
    have hw : wrap64 (((n + 1 : Nat) : Int) - 1) = (n : Int) := by rw [w64 (by omega) (by omega)]; omega
    rw [hw]
    refine loop n cs p4 _ hp3 (by simp; omega) (by omega) (fun x hx => ?_)
    have a1 := nmB_size r
    have a2 := pkB_size r2
    rcases List.mem_append.1 hx with hx | hx
    · exact hs x hx
    · simp only [List.mem_cons, List.not_mem_nil, or_false] at hx
      rcases hx with rfl | rfl | rfl <;> omega
theorem pure : ∀ (x0 : List Int) (x1 : List ByteArray), ((x0).length * 1 ≤ 140737488351232 ∧ ∀ a ∈ (x0), (Lit.int .u8 a).wf = true) → ((x1).length * 16 ≤ 140737488351232 ∧ ∀ a ∈ (x1), a.size ≤ 140737488351232) → ∃ k, kauditlaw26_RotateNumbers.f k x0 x1 = some true := by
  intro x0 x1 h0 h1
  obtain ⟨cs, e, hok⟩ := new_ok x0 60 (by omega) (by omega) (fun x hx => wf_u8 (h0.2 x hx))
  obtain ⟨r, p, e2, hr0, hr, hr2, hp⟩ := int_ok hok 9
  have hl : x1.length ≤ 8796093021952 := by have := h1.1; omega
  have h := loop r.toNat cs p ([] ++ x1) hp (by simp; omega) (by omega) (fun s hs => by have := h1.2 s (by simpa using hs); omega)
  rw [Int.toNat_of_nonneg hr0] at h
  obtain ⟨K, hK⟩ := h
  refine ⟨K, ?_⟩
  rw [kauditlaw26_RotateNumbers.f, e, Option.bind_some, if_pos (by simp; omega), e2, Option.bind_some]
  exact hK K (Nat.le_refl _)
end Go.Proofs.YtadjaakmpjhdhaaDoor.Q.PRotateNumbers
