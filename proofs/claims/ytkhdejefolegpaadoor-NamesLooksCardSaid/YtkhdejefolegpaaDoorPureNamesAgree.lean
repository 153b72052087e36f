/- The pure statement of NamesAgree. -/
import Derived.Test.YtkhdejefolegpaaDoorQx7
import Derived.Test.YtkhdejefolegpaaDoorKaMill
import Derived.Test.YtkhdejefolegpaaDoorKaUniq
namespace Go.Proofs.YtkhdejefolegpaaDoor.Q.PNamesAgree
open Go.RowKit Go.Proofs.YtkhdejefolegpaaDoorW.PrintWords
set_option linter.unusedVariables false
set_option linter.unusedSimpArgs false
abbrev T := S43
theorem begun_ev : Ev (fun k => kauditlaw37_begun.f k) true := Ev.of kauditlaw37_begun.mono (show kauditlaw37_begun.f 40 = some true by decide +kernel)

theorem word_ok {cs : List Int} {a : Int} (h : Ok cs a) (l : List ByteArray) (hl : 0 < l.length) : ∃ r b, kauditmill_Case_word.f cs a l = some (r, b) ∧ Ok cs b := by
  obtain ⟨r, b, h1, h2, h3, _, h4⟩ := int_ok h (l.length : Int)
  unfold kauditmill_Case_word.f
  rw [h1]
  simp only [Option.bind_some]
  rw [if_pos h2, if_pos (by omega)]
  exact ⟨_, _, rfl, h4⟩
theorem pick_ok {cs : List Int} {a : Int} (h : Ok cs a) (l : List Int) (hl : 0 < l.length) : ∃ r b, kauditmill_Case_Pick.f cs a l = some (r, b) ∧ Ok cs b := by
  obtain ⟨r, b, h1, h2, h3, _, h4⟩ := int_ok h (l.length : Int)
  unfold kauditmill_Case_Pick.f
  rw [h1]
  simp only [Option.bind_some]
  rw [if_pos h2, if_pos (by omega)]
  exact ⟨_, _, rfl, h4⟩
theorem namings_loop {cs : List Int} : ∀ (d : Nat) (l : List T) (t x : Int) (a : Int), Ok cs a → x = d → l.length + d < 100000 →
    ∃ l' b, Ev (fun k => kauditmill_Case_Namings.l0 k l t x cs a) (l', b) ∧ l'.length ≤ l.length + d ∧ Ok cs b
  | 0, l, t, x, a, h, hx, hl => ⟨l, a, Ev.step (fun k => by rw [kauditmill_Case_Namings.l0]) (Ev.neg (by omega) (Ev.now _)), by omega, h⟩
  | d + 1, l, t, x, a, h, hx, hl => by
    obtain ⟨r1, b1, e1, _, _, _, k1⟩ := int_ok h 3
    obtain ⟨r2, b2, e2, _, _, _, k2⟩ := int_ok k1 2
    obtain ⟨r3, b3, e3, k3⟩ := pick_ok k2 [0, 7, 8] (by decide)
    obtain ⟨r4, b4, e4, k4⟩ := word_ok k3 [(⟨#[97, 110, 110]⟩ : ByteArray), (⟨#[98, 111, 98]⟩ : ByteArray), (⟨#[]⟩ : ByteArray), (⟨#[114, 111, 111, 116]⟩ : ByteArray), (⟨#[97, 45, 49]⟩ : ByteArray)] (by decide)
    obtain ⟨l', b, e, hlen, hok⟩ := namings_loop (cs := cs) d (l ++ [⟨wrap64 ((wrap64 (t + (wrap64 (1 + r1)))) - 1), wrap64 (1 + r2), r3, r4⟩]) (wrap64 (t + (wrap64 (1 + r1)))) (wrap64 (x - 1)) b4 k4 (by rw [w64 (by omega) (by omega)]; omega) (by simp; omega)
    refine ⟨l', b, ?_, by simp at hlen; omega, hok⟩
    refine Ev.step (fun k => by rw [kauditmill_Case_Namings.l0]) (Ev.pos (by omega) ?_)
    simp only [e1, e2, e3, e4, Option.bind_some]
    exact Ev.pos (by omega) e
theorem namings_ev {cs : List Int} {a : Int} (h : Ok cs a) : ∃ l b, Ev (fun k => kauditmill_Case_Namings.f k cs a) (l, b) ∧ l.length ≤ 255 ∧ Ok cs b := by
  obtain ⟨r, b, e, h1, _, h3, k⟩ := int_ok h 7
  obtain ⟨l, b2, e2, hl, hok⟩ := namings_loop (cs := cs) r.toNat [] 0 r b k (by omega) (by simp; omega)
  refine ⟨l, b2, ?_, by simp at hl; omega, hok⟩
  unfold kauditmill_Case_Namings.f
  simp only [e, Option.bind_some]
  exact e2

theorem mem_ids (l : List T) (k n t : Int) (s : ByteArray) : decide (n ∈ uniq (KaIds.ids l k s t l)) = ((KaName.res l k n t).2 && ((KaName.res l k n t).1.toList == s.toList)) := by
  rw [Bool.eq_iff_iff, decide_eq_true_eq, (uniq_spec _).2]
  unfold KaIds.ids
  rw [List.mem_map]
  constructor
  · rintro ⟨x, hx, rfl⟩
    rw [List.mem_filter] at hx
    have := hx.2
    unfold KaIds.keep at this
    simp only [Bool.and_eq_true] at this
    rw [Bool.and_eq_true]
    exact this.2.2
  · intro h
    obtain ⟨h1, h2⟩ := Bool.and_eq_true_iff.1 h
    cases hf : l.reverse.find? (KaName.hit k n t) with
    | none =>
      have : KaName.res l k n t = (⟨#[]⟩, false) := by unfold KaName.res; rw [hf]
      rw [this] at h1
      cases h1
    | some x =>
      have hr : KaName.res l k n t = (x.f3, !x.f3.toList.isEmpty) := by unfold KaName.res; rw [hf]
      have hm : x ∈ l := List.mem_reverse.1 (List.mem_of_find?_eq_some hf)
      have hh := List.find?_some hf
      unfold KaName.hit at hh
      simp only [Bool.and_eq_true, decide_eq_true_eq] at hh
      refine ⟨x, List.mem_filter.2 ⟨hm, ?_⟩, hh.2.1⟩
      unfold KaIds.keep
      rw [hh.2.1, h1, h2]
      rw [hr] at h2
      have h3 : (x.f3.toList == s.toList) = true := h2
      rw [h3]
      simp [hh.1]

theorem l2_ev (x8 : List T) (k n t : Int) (s : ByteArray) (ok : Bool) (nm : ByteArray) (y : List ByteArray) (yl i44 : Int) (L : List Int) (hL : L.length < 9223372036854775807) (r : Bool)
    (hc : Ev (fun q => kauditlaw37_NamesAgree.l1 q x8 k n t s ok y yl (wrap64 (i44 + 1))) r) : ∀ (d i : Nat) (b : Bool), L.length - i = d → i ≤ L.length → (b || decide (n ∈ L.drop i)) = (ok && (s.toList == nm.toList)) →
    Ev (fun q => kauditlaw37_NamesAgree.l2 q x8 k n t s ok nm b y yl i44 L (L.length : Int) (i : Int)) r
  | 0, i, b, hd, hi, hb => by
    rw [List.drop_eq_nil_of_le (by omega)] at hb
    simp only [List.not_mem_nil, decide_false, Bool.or_false] at hb
    refine Ev.step (fun q => by rw [kauditlaw37_NamesAgree.l2]) (Ev.neg (by omega) ?_)
    cases ok with
    | true => refine Ev.pos rfl (Ev.neg ?_ hc); rw [hb]; simp
    | false => refine Ev.neg (by simp) (Ev.neg ?_ hc); rw [hb]; simp
  | d + 1, i, b, hd, hi, hb => by
    have hlt : i < L.length := by omega
    have hw : wrap64 ((i : Int) + 1) = ((i + 1 : Nat) : Int) := by rw [w64 (by omega) (by omega)]; omega
    rw [drop_at hlt] at hb
    refine Ev.step (fun q => by rw [kauditlaw37_NamesAgree.l2]) (Ev.pos (by omega) (Ev.pos (by omega) (Ev.pos (by omega) ?_)))
    rw [hw]
    cases b with
    | true => exact Ev.pos rfl (l2_ev x8 k n t s ok nm y yl i44 L hL r hc d (i + 1) true (by omega) (by omega) (by simpa using hb))
    | false =>
      refine Ev.neg (by simp) (l2_ev x8 k n t s ok nm y yl i44 L hL r hc d (i + 1) _ (by omega) (by omega) ?_)
      rw [← hb]
      by_cases e : rd L (i : Int) = n
      · simp [e]
      · have : ¬ n = rd L (i : Int) := fun h => e h.symm
        simp [e, this]

theorem l1_ev (x8 : List T) (h8 : x8.length ≤ 255) (k n t : Int) (y : List ByteArray) (hy : y.length < 1000) (r : Bool)
    (hc : Ev (fun q => kauditlaw37_NamesAgree.l0 q x8 k n (wrap64 (t + 1))) r) : ∀ (d i : Nat), y.length - i = d → i ≤ y.length →
    Ev (fun q => kauditlaw37_NamesAgree.l1 q x8 k n t (KaName.res x8 k n t).1 (KaName.res x8 k n t).2 y (y.length : Int) (i : Int)) r
  | 0, i, hd, hi => Ev.step (fun q => by rw [kauditlaw37_NamesAgree.l1]) (Ev.neg (by omega) hc)
  | d + 1, i, hd, hi => by
    have hw : wrap64 ((i : Int) + 1) = ((i + 1 : Nat) : Int) := by rw [w64 (by omega) (by omega)]; omega
    have ih := l1_ev x8 h8 k n t y hy r hc d (i + 1) (by omega) (by omega)
    rw [← hw] at ih
    refine Ev.step (fun q => by rw [kauditlaw37_NamesAgree.l1]) (Ev.pos (by omega) (Ev.pos (by omega) (Ev.pos (by omega) ?_)))
    have hid : names_IDs.f x8 k (rdOf ByteArray.empty y (i : Int)) t = some (uniq (KaIds.ids x8 k (rdOf ByteArray.empty y (i : Int)) t x8)) := by unfold names_IDs.f; rw [if_pos (by omega)]; rfl
    simp only [hid, Option.bind_some]
    have hlen := uniq_len (KaIds.ids x8 k (rdOf ByteArray.empty y (i : Int)) t x8)
    have hlen2 := KaIds.ids_le x8 k (rdOf ByteArray.empty y (i : Int)) t x8
    exact l2_ev x8 k n t _ _ _ y _ _ _ (by omega) r ih _ 0 false rfl (by omega) (by rw [List.drop_zero, Bool.false_or, mem_ids])

theorem l0_ev (x8 : List T) (h8 : x8.length ≤ 255) (k n : Int) : ∀ (d : Nat) (t : Int), 0 ≤ t → t ≤ 12 → (12 - t).toNat = d → Ev (fun q => kauditlaw37_NamesAgree.l0 q x8 k n t) true
  | 0, t, h0, h1, hd => Ev.step (fun q => by rw [kauditlaw37_NamesAgree.l0]) (Ev.neg (by omega) (Ev.bind begun_ev (Ev.now _)))
  | d + 1, t, h0, h1, hd => by
    have hw : wrap64 (t + 1) = t + 1 := w64 (by omega) (by omega)
    have ih := l0_ev x8 h8 k n d (t + 1) (by omega) (by omega) (by omega)
    rw [← hw] at ih
    refine Ev.step (fun q => by rw [kauditlaw37_NamesAgree.l0]) (Ev.pos (by omega) ?_)
    have hid : names_Name.f x8 k n t = some (KaName.res x8 k n t) := by unfold names_Name.f; rw [if_pos (by omega)]
    simp only [hid, Option.bind_some]
    exact l1_ev x8 h8 k n t _ (by simp) true ih _ 0 rfl (by omega)

theorem pure : ∀ (x0 : List Int) (x1 : Int) (x2 : Int), ((x0).length * 1 ≤ 140737488351232 ∧ ∀ a ∈ (x0), (Lit.int .u8 a).wf = true) → (Lit.int .u8 x1).wf = true → (Lit.int .u8 x2).wf = true → ∃ k, kauditlaw37_NamesAgree.f k x0 x1 x2 = some true := by
  intro x0 x1 x2 h0 _ _
  obtain ⟨cs, e, hok⟩ := new_ok x0 100 (by omega) (by omega) (fun x hx => wf_u8 (h0.2 x hx))
  obtain ⟨l, b, e2, hl, _⟩ := namings_ev hok
  have h : Ev (fun k => kauditlaw37_NamesAgree.f k x0 x1 x2) true := by
    unfold kauditlaw37_NamesAgree.f
    simp only [e, Option.bind_some]
    exact Ev.bind e2 (l0_ev l hl _ _ 12 0 (by omega) (by omega) rfl)
  obtain ⟨K, hK⟩ := h
  exact ⟨K, hK K (Nat.le_refl _)⟩
end Go.Proofs.YtkhdejefolegpaaDoor.Q.PNamesAgree
