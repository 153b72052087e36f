/- What the maker of events (kauditmill) gives: events of the given numbers, all of whose numbers are of 64 bits. -/
import Derived.Test.YtjgehecnamadcaaDoorQx3
import Derived.Test.YtjgehecnamadcaaDoorKaMill
namespace Go.Proofs.YtjgehecnamadcaaDoor.Q
open Go.RowKit Go.Proofs.YtjgehecnamadcaaDoorW.PrintWords
set_option linter.unusedVariables false
set_option linter.unusedSimpArgs false

theorem Ev.pos {α : Type} {c : Prop} [Decidable c] {f g : Nat → Option α} {r : α} (h : c) (e : Ev f r) : Ev (fun k => if c then f k else g k) r := by simpa only [if_pos h] using e
theorem Ev.neg {α : Type} {c : Prop} [Decidable c] {f g : Nat → Option α} {r : α} (h : ¬ c) (e : Ev g r) : Ev (fun k => if c then f k else g k) r := by simpa only [if_neg h] using e
theorem Ev.some {α β : Type} {a : α} {f : Nat → α → Option β} {r : β} (e : Ev (fun k => f k a) r) : Ev (fun k => (Option.some a).bind (f k)) r := by simpa only [Option.bind_some] using e
theorem Ev.call {α β : Type} {o : Option α} {a : α} {f : Nat → α → Option β} {r : β} (h : o = Option.some a) (e : Ev (fun k => f k a) r) : Ev (fun k => o.bind (f k)) r := by simpa only [h, Option.bind_some] using e

theorem bool_ok {cs : List Int} {a : Int} (h : Ok cs a) (n : Int) : ∃ b a', kauditmill_Case_Bool.f cs a n = some (b, a') ∧ Ok cs a' := by
  obtain ⟨r, b, e, _, _, _, ok⟩ := int_ok h n
  exact ⟨_, b, by rw [kauditmill_Case_Bool.f, e]; rfl, ok⟩
theorem pick_ok {cs : List Int} {a : Int} (h : Ok cs a) (l : List Int) (hl : 0 < l.length) : ∃ r a', kauditmill_Case_Pick.f cs a l = some (r, a') ∧ r ∈ l ∧ Ok cs a' := by
  obtain ⟨r, b, e, h0, h1, _, ok⟩ := int_ok h (l.length : Int)
  have hr : r < (l.length : Int) := by omega
  exact ⟨_, b, by rw [kauditmill_Case_Pick.f, e, Option.bind_some]; dsimp only; rw [if_pos h0, if_pos hr], rd_mem h0 hr, ok⟩
theorem rdOf_mem {l : List ByteArray} {i : Int} (h0 : 0 ≤ i) (h1 : i < l.length) : rdOf ByteArray.empty l i ∈ l := by
  unfold rdOf
  rw [List.getD_eq_getElem?_getD, List.getElem?_eq_getElem (by omega)]
  exact List.getElem_mem _
theorem word_ok {cs : List Int} {a : Int} (h : Ok cs a) (l : List ByteArray) (hl : 0 < l.length) : ∃ r a', kauditmill_Case_word.f cs a l = some (r, a') ∧ r ∈ l ∧ Ok cs a' := by
  obtain ⟨r, b, e, h0, h1, _, ok⟩ := int_ok h (l.length : Int)
  have hr : r < (l.length : Int) := by omega
  exact ⟨_, b, by rw [kauditmill_Case_word.f, e, Option.bind_some]; dsimp only; rw [if_pos h0, if_pos hr], rdOf_mem h0 hr, ok⟩
def texts : List ByteArray := [(⟨#[]⟩ : ByteArray), (⟨#[97]⟩ : ByteArray), (⟨#[97, 110, 110]⟩ : ByteArray), (⟨#[47, 97, 47, 98]⟩ : ByteArray), (⟨#[110, 111]⟩ : ByteArray), (⟨#[121, 101, 115]⟩ : ByteArray), (⟨#[97, 32, 98]⟩ : ByteArray), (⟨#[120, 54, 102]⟩ : ByteArray), (⟨#[0]⟩ : ByteArray), (⟨#[109, 107, 100, 105, 114]⟩ : ByteArray)]
theorem text_ok {cs : List Int} {a : Int} (h : Ok cs a) : ∃ r a', kauditmill_Case_Text.f cs a = some (r, a') ∧ r ∈ texts ∧ Ok cs a' := by
  obtain ⟨r, b, e, h0, h1, _, ok⟩ := int_ok h (texts.length : Int)
  have hr : r < (texts.length : Int) := by
    have : (texts.length : Int) = 10 := rfl
    omega
  refine ⟨_, b, ?_, rdOf_mem h0 hr, ok⟩
  unfold kauditmill_Case_Text.f
  rw [Option.bind_some]
  show ((kauditmill_Case_Int.f cs a (texts.length : Int)).bind fun bt => if 0 ≤ bt.1 then (if bt.1 < (texts.length : Int) then some (rdOf ByteArray.empty texts bt.1, bt.2) else none) else none) = _
  rw [e, Option.bind_some]
  dsimp only
  rw [if_pos h0, if_pos hr]
theorem ids_ok {cs : List Int} {a : Int} (h : Ok cs a) : ∃ r a', kauditmill_Case_ids.f cs a = some (r, a') ∧ (0 ≤ r ∧ r ≤ 4294967295) ∧ Ok cs a' := by
  obtain ⟨r, b, e, hm, ok⟩ := pick_ok h [0, 0, 7, 8, 4294967295] (by simp)
  exact ⟨r, b, by rw [kauditmill_Case_ids.f, e]; rfl, by simp at hm; omega, ok⟩
theorem process_ok {cs : List Int} {a : Int} (h : Ok cs a) : ∃ r a', kauditmill_Case_process.f cs a = some (r, a') ∧ (1 ≤ r ∧ r ≤ 5) ∧ Ok cs a' := by
  obtain ⟨r, b, e, h0, h1, _, ok⟩ := int_ok h 5
  exact ⟨1 + r, b, by rw [kauditmill_Case_process.f, e, Option.bind_some]; dsimp only; rw [w64 (by omega) (by omega)], by omega, ok⟩
/-- A number of 64 bits. -/
def I64 (x : Int) : Prop := -9223372036854775808 ≤ x ∧ x ≤ 9223372036854775807
theorem i64_wrap (x : Int) : I64 (wrap64 x) := by
  unfold I64 wrap64
  omega
def GoodP (l : List S70) : Prop := ∀ p ∈ l, I64 p.f2
def GoodR (l : List S75) : Prop := ∀ r ∈ l, GoodP r.f3
theorem single_ok {cs : List Int} {a : Int} (h : Ok cs a) (t n : Int) : ∃ ty l a', kauditmill_Case_single.f cs a t n = some (ty, t, n, l, a') ∧ GoodP l ∧ l.length = 3 ∧ Ok cs a' := by
  obtain ⟨ty, a1, e1, hm, ok1⟩ := pick_ok h [1005, 1305, 1200, 1331] (by simp)
  unfold kauditmill_Case_single.f
  simp only [e1, Option.bind_some, kauditmill_record.f, kauditmill_Num.f, kauditmill_Str.f]
  by_cases ht : ty = 1331
  · obtain ⟨r, a2, e2, h0, h1, _, ok2⟩ := int_ok ok1 3
    simp only [if_pos ht, e2, Option.bind_some]
    refine ⟨_, _, _, rfl, ?_, rfl, ok2⟩
    intro p hp
    have i1 := i64_wrap (wrap64 (n - 1) - r)
    have i2 := i64_wrap (n - 1)
    unfold I64 at *
    simp only [List.mem_cons, List.not_mem_nil, or_false] at hp
    rcases hp with rfl | rfl | rfl <;> simp only [mx] <;> (repeat' split) <;> omega
  · obtain ⟨p1, a2, e2, h2, ok2⟩ := process_ok ok1
    obtain ⟨p2, a3, e3, h3, ok3⟩ := ids_ok ok2
    obtain ⟨p3, a4, e4, h4, ok4⟩ := text_ok ok3
    simp only [if_neg ht, e2, e3, e4, Option.bind_some]
    refine ⟨_, _, _, rfl, ?_, rfl, ok4⟩
    intro p hp
    unfold I64
    simp only [List.mem_cons, List.not_mem_nil, or_false] at hp
    rcases hp with rfl | rfl | rfl <;> dsimp only <;> omega
theorem syscall_ok {cs : List Int} {a : Int} (h : Ok cs a) (t n : Int) : ∃ l a', Ev (fun k => kauditmill_Case_syscall.f k cs a t n) (1300, t, n, l, a') ∧ GoodP l ∧ l.length ≤ 11 ∧ Ok cs a' := by
  obtain ⟨s1, a1, e1, m1, ok1⟩ := word_ok h [(⟨#[121, 101, 115]⟩ : ByteArray), (⟨#[121, 101, 115]⟩ : ByteArray), (⟨#[110, 111]⟩ : ByteArray)] (by simp)
  obtain ⟨x1, a2, e2, m2, ok2⟩ := pick_ok ok1 [0, 2, 3, 6, (-2), (-13)] (by simp)
  have eo : kauditmill_Case_outcome.f cs a = some (s1, x1, a2) := by rw [kauditmill_Case_outcome.f, e1, Option.bind_some]; dsimp only; rw [e2]; rfl
  obtain ⟨s2, a3, e3, m3, ok3⟩ := word_ok ok2 [(⟨#[109, 107, 100, 105, 114]⟩ : ByteArray), (⟨#[102, 111, 114, 107]⟩ : ByteArray), (⟨#[101, 120, 105, 116]⟩ : ByteArray), (⟨#[108, 111, 103, 105, 110]⟩ : ByteArray), (⟨#[107, 105, 108, 108]⟩ : ByteArray), (⟨#[111, 112, 101, 110]⟩ : ByteArray), (⟨#[117, 110, 108, 105, 110, 107]⟩ : ByteArray)] (by simp)
  have ec : kauditmill_Case_call.f cs a2 = some (s2, a3) := by rw [kauditmill_Case_call.f, e3]; rfl
  obtain ⟨x2, a4, e4, h4, ok4⟩ := process_ok ok3
  obtain ⟨x3, a5, e5, h5, h5', _, ok5⟩ := int_ok ok4 3
  obtain ⟨x4, a6, e6, h6, ok6⟩ := process_ok ok5
  obtain ⟨x5, a7, e7, h7, ok7⟩ := ids_ok ok6
  obtain ⟨x6, a8, e8, h8, ok8⟩ := ids_ok ok7
  obtain ⟨x7, a9, e9, m9, ok9⟩ := pick_ok ok8 [1, 2, 4294967295, 1, 3] (by simp)
  have es : kauditmill_Case_session.f cs a8 = some (x7, a9) := by rw [kauditmill_Case_session.f, e9]; rfl
  obtain ⟨s3, a10, e10, m10, ok10⟩ := text_ok ok9
  obtain ⟨b1, a11, e11, ok11⟩ := bool_ok ok10 3
  obtain ⟨b2, a12, e12, ok12⟩ := bool_ok ok11 9
  have hx1 : I64 x1 := by unfold I64; simp at m2; omega
  have hx7 : I64 x7 := by unfold I64; simp at m9; omega
  obtain ⟨Y, hY⟩ : ∃ Y : List S70, Y = [(⟨(⟨#[99, 97, 108, 108]⟩ : ByteArray), 2, 0, s2⟩ : S70), ⟨(⟨#[115, 117, 99, 99, 101, 115, 115]⟩ : ByteArray), 2, 0, s1⟩, ⟨(⟨#[101, 120, 105, 116]⟩ : ByteArray), 1, x1, (⟨#[]⟩ : ByteArray)⟩, ⟨(⟨#[97, 48]⟩ : ByteArray), 1, x2, (⟨#[]⟩ : ByteArray)⟩, ⟨(⟨#[97, 49]⟩ : ByteArray), 1, x3, (⟨#[]⟩ : ByteArray)⟩, ⟨(⟨#[112, 105, 100]⟩ : ByteArray), 1, x4, (⟨#[]⟩ : ByteArray)⟩, ⟨(⟨#[97, 117, 105, 100]⟩ : ByteArray), 1, x5, (⟨#[]⟩ : ByteArray)⟩, ⟨(⟨#[117, 105, 100]⟩ : ByteArray), 1, x6, (⟨#[]⟩ : ByteArray)⟩, ⟨(⟨#[115, 101, 115]⟩ : ByteArray), 1, x7, (⟨#[]⟩ : ByteArray)⟩, ⟨(⟨#[99, 111, 109, 109]⟩ : ByteArray), 2, 0, s3⟩] := ⟨_, rfl⟩
  have hYg : GoodP Y := by
    intro p hp
    rw [hY] at hp
    simp only [List.mem_cons, List.not_mem_nil, or_false] at hp
    unfold I64 at *
    rcases hp with rfl | rfl | rfl | rfl | rfl | rfl | rfl | rfl | rfl | rfl <;> dsimp only <;> omega
  have hYl : Y.length = 10 := by rw [hY]; rfl
  -- the last step: what is cut off
  have last : ∀ (Z : List S70) (b : Int), GoodP Z → Z.length ≤ 11 → Ok cs b → ∃ l a', Ev (fun k => kauditmill_Case_syscall.j0 k cs b 1300 t n Z) (1300, t, n, l, a') ∧ GoodP l ∧ l.length ≤ 11 ∧ Ok cs a' := by
    intro Z b hZ hl okb
    obtain ⟨b3, c1, q1, okc⟩ := bool_ok okb 9
    cases b3 with
    | true =>
      obtain ⟨r, c2, q2, r0, r1, _, okr⟩ := int_ok okc (wrap64 ((Z.length : Int) + 1))
      rw [w64 (by omega) (by omega)] at r1
      have hr : r ≤ (Z.length : Int) := by omega
      refine ⟨Z.take r.toNat, c2, Ev.step (fun k => by rw [kauditmill_Case_syscall.j0]) (Ev.call q1 (Ev.pos rfl (Ev.call q2 (Ev.pos r0 (Ev.pos hr (Ev.now _)))))), fun p hp => hZ p (List.mem_of_mem_take hp), Nat.le_trans (List.length_take_le _ _) ?_, okr⟩
      omega
    | false => exact ⟨Z, c1, Ev.step (fun k => by rw [kauditmill_Case_syscall.j0]) (Ev.call q1 (Ev.neg (fun h => Bool.noConfusion h) (Ev.now _))), hZ, hl, okc⟩
  cases b1 with
  | true =>
    obtain ⟨l, a', ev, g1, g2, g3⟩ := last (Y ++ [⟨(⟨#[107, 101, 121]⟩ : ByteArray), 3, 0, (⟨#[]⟩ : ByteArray)⟩]) a11 (fun p hp => by
      rcases List.mem_append.1 hp with h | h
      · exact hYg p h
      · obtain rfl := List.mem_singleton.1 h
        unfold I64
        dsimp only
        omega) (by simp [hYl]) ok11
    refine ⟨l, a', ?_, g1, g2, g3⟩
    refine Ev.congr (fun k => ?_) ev
    unfold kauditmill_Case_syscall.f
    simp only [kauditmill_record.f, kauditmill_Num.f, kauditmill_Str.f, kauditmill_Case_null.f, eo, ec, e4, e5, e6, e7, e8, es, e10, e11, Option.bind_some, if_pos]
    rw [← hY, if_pos (by omega)]
  | false =>
    obtain ⟨l, a', ev, g1, g2, g3⟩ := last Y a11 hYg (by omega) ok11
    refine ⟨l, a', ?_, g1, g2, g3⟩
    refine Ev.congr (fun k => ?_) ev
    unfold kauditmill_Case_syscall.f
    simp only [kauditmill_record.f, kauditmill_Num.f, kauditmill_Str.f, eo, ec, e4, e5, e6, e7, e8, es, e10, e11, Option.bind_some]
    rw [← hY, if_neg (by simp)]
theorem event_ok {cs : List Int} {a : Int} (h : Ok cs a) (b n t : Int) : ∃ l c a', Ev (fun k => kauditmill_Case_Event.f k cs a b n t) (b, n, t, l, c, a') ∧ GoodR l ∧ l.length ≤ 3 ∧ (∀ r ∈ l, r.f3.length ≤ 11) ∧ Ok cs a' := by
  obtain ⟨b1, a1, e1, ok1⟩ := bool_ok h 4
  cases b1 with
  | true =>
    obtain ⟨ty, l, a2, e2, g2, hl2, ok2⟩ := single_ok ok1 t n
    refine ⟨_, _, _, Ev.congr (fun k => ?_) (Ev.now (b, n, t, [(⟨ty, t, n, l⟩ : S75)], true, a2)), ?_, by simp, ?_, ok2⟩
    · unfold kauditmill_Case_Event.f
      simp only [kauditmill_event.f, e1, e2, Option.bind_some, if_pos]
    · intro r hr
      obtain rfl := List.mem_singleton.1 hr
      exact g2
    · intro r hr
      obtain rfl := List.mem_singleton.1 hr
      dsimp only
      omega
  | false =>
    obtain ⟨l, a2, e2, g2, hl2, ok2⟩ := syscall_ok ok1 t n
    obtain ⟨b2, a3, e3, ok3⟩ := bool_ok ok2 2
    have last : ∀ (Z : List S75) (a : Int), GoodR Z → Z.length ≤ 2 → (∀ r ∈ Z, r.f3.length ≤ 11) → Ok cs a → ∃ l c a', Ev (fun k => kauditmill_Case_Event.j0 k n t cs a b n t Z false) (b, n, t, l, c, a') ∧ GoodR l ∧ l.length ≤ 3 ∧ (∀ r ∈ l, r.f3.length ≤ 11) ∧ Ok cs a' := by
      intro Z a hZ hZl hZr oka
      obtain ⟨b3, a4, e4, ok4⟩ := bool_ok oka 7
      cases b3 with
      | true => exact ⟨Z, false, a4, Ev.step (fun k => by rw [kauditmill_Case_Event.j0]) (Ev.call e4 (Ev.pos rfl (Ev.now _))), hZ, by omega, hZr, ok4⟩
      | false =>
        have hZ2 : Z.length < 2932031007402 := by omega
        refine ⟨Z ++ [⟨1320, t, n, []⟩], true, a4, Ev.step (fun k => by rw [kauditmill_Case_Event.j0]) (Ev.call e4 (Ev.neg (fun h => Bool.noConfusion h) (Ev.call rfl (Ev.pos hZ2 (Ev.now _))))), ?_, by simp; omega, ?_, ok4⟩
        · intro r hr
          rcases List.mem_append.1 hr with h | h
          · exact hZ r h
          · obtain rfl := List.mem_singleton.1 h
            intro p hp
            cases hp
        · intro r hr
          rcases List.mem_append.1 hr with h | h
          · exact hZr r h
          · obtain rfl := List.mem_singleton.1 h
            simp
    have hY : GoodR [(⟨1300, t, n, l⟩ : S75)] := by
      intro r hr
      obtain rfl := List.mem_singleton.1 hr
      exact g2
    have hYr : ∀ r ∈ [(⟨1300, t, n, l⟩ : S75)], r.f3.length ≤ 11 := by
      intro r hr
      obtain rfl := List.mem_singleton.1 hr
      exact hl2
    cases b2 with
    | false =>
      obtain ⟨l', c, a', ev, q⟩ := last _ a3 hY (by simp) hYr ok3
      refine ⟨l', c, a', ?_, q⟩
      unfold kauditmill_Case_Event.f
      exact Ev.call rfl (Ev.call e1 (Ev.neg (fun h => Bool.noConfusion h) (Ev.bind e2 (Ev.some (Ev.call e3 (Ev.neg (fun h => Bool.noConfusion h) ev))))))
    | true =>
      obtain ⟨s1, a4, e4, h4, ok4⟩ := text_ok ok3
      obtain ⟨x1, a5, e5, h5, ok5⟩ := pick_ok ok4 [420, 493, (-1)] (by simp)
      obtain ⟨x2, a6, e6, h6, ok6⟩ := ids_ok ok5
      obtain ⟨x3, a7, e7, h7, h7', _, ok7⟩ := int_ok ok6 17
      have hx1 : I64 x1 := by unfold I64; simp at h5; omega
      obtain ⟨l', c, a', ev, q⟩ := last ([(⟨1300, t, n, l⟩ : S75)] ++ [⟨1302, t, n, [(⟨(⟨#[105, 116, 101, 109]⟩ : ByteArray), 1, 0, (⟨#[]⟩ : ByteArray)⟩ : S70), ⟨(⟨#[110, 97, 109, 101]⟩ : ByteArray), 2, 0, s1⟩, ⟨(⟨#[109, 111, 100, 101]⟩ : ByteArray), 1, x1, (⟨#[]⟩ : ByteArray)⟩, ⟨(⟨#[111, 117, 105, 100]⟩ : ByteArray), 1, x2, (⟨#[]⟩ : ByteArray)⟩, ⟨(⟨#[112, 101, 114, 109]⟩ : ByteArray), 1, x3, (⟨#[]⟩ : ByteArray)⟩, ⟨(⟨#[114, 111, 108, 101]⟩ : ByteArray), 2, 0, (⟨#[99, 114, 101, 97, 116, 101]⟩ : ByteArray)⟩]⟩]) a7 (by
        intro r hr
        rcases List.mem_append.1 hr with h | h
        · exact hY r h
        · obtain rfl := List.mem_singleton.1 h
          intro p hp
          simp only [List.mem_cons, List.not_mem_nil, or_false] at hp
          unfold I64 at *
          rcases hp with rfl | rfl | rfl | rfl | rfl | rfl <;> dsimp only <;> omega) (by simp) (by
        intro r hr
        rcases List.mem_append.1 hr with h | h
        · exact hYr r h
        · obtain rfl := List.mem_singleton.1 h
          simp) ok7
      refine ⟨l', c, a', ?_, q⟩
      unfold kauditmill_Case_Event.f
      refine Ev.call rfl (Ev.call e1 (Ev.neg (fun h => Bool.noConfusion h) (Ev.bind e2 (Ev.some (Ev.call e3 (Ev.pos rfl ?_))))))
      exact Ev.call rfl (Ev.call rfl (Ev.call e4 (Ev.call rfl (Ev.call e5 (Ev.call rfl (Ev.call e6 (Ev.call rfl (Ev.call e7 (Ev.call rfl (Ev.call rfl (Ev.pos (by simp) ev)))))))))))
end Go.Proofs.YtjgehecnamadcaaDoor.Q
