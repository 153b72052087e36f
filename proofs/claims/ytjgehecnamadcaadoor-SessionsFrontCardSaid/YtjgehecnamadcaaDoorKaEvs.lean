/- The events of law 41: at most 29, numbered upwards, with numbers of 64 bits. -/
import Derived.Test.YtjgehecnamadcaaDoorQx4
import Derived.Test.YtjgehecnamadcaaDoorKaPlay
namespace Go.Proofs.YtjgehecnamadcaaDoor.Q
open Go.RowKit Go.Proofs.YtjgehecnamadcaaDoorW.PrintWords
set_option linter.unusedVariables false
set_option linter.unusedSimpArgs false
def actE (n : Int) (call : ByteArray) (pid ses exit a0 a1 : Int) (ok : ByteArray) : SE := ⟨1, n, 0, [⟨1300, 0, n, [⟨(⟨#[99, 97, 108, 108]⟩ : ByteArray), 2, 0, call⟩, ⟨(⟨#[115, 117, 99, 99, 101, 115, 115]⟩ : ByteArray), 2, 0, ok⟩, ⟨(⟨#[101, 120, 105, 116]⟩ : ByteArray), 1, exit, (⟨#[]⟩ : ByteArray)⟩, ⟨(⟨#[97, 48]⟩ : ByteArray), 1, a0, (⟨#[]⟩ : ByteArray)⟩, ⟨(⟨#[97, 49]⟩ : ByteArray), 1, a1, (⟨#[]⟩ : ByteArray)⟩, ⟨(⟨#[112, 105, 100]⟩ : ByteArray), 1, pid, (⟨#[]⟩ : ByteArray)⟩, ⟨(⟨#[97, 117, 105, 100]⟩ : ByteArray), 1, 7, (⟨#[]⟩ : ByteArray)⟩, ⟨(⟨#[115, 101, 115]⟩ : ByteArray), 1, ses, (⟨#[]⟩ : ByteArray)⟩]⟩], false⟩
def tup (e : SE) := (e.f0, e.f1, e.f2, e.f3, e.f4)
theorem act_eq (n : Int) (call : ByteArray) (pid ses exit a0 a1 : Int) (ok : ByteArray) : kauditlaw41_act.f n call pid ses exit a0 a1 ok = some (tup (actE n call pid ses exit a0 a1 ok)) := rfl
theorem act_good {n : Int} {call : ByteArray} {pid ses exit a0 a1 : Int} {ok : ByteArray} (h1 : I64 pid) (h2 : I64 ses) (h3 : I64 exit) (h4 : I64 a0) (h5 : I64 a1) : GoodE (actE n call pid ses exit a0 a1 ok) := by
  unfold actE
  refine ⟨fun r hr => ?_, fun r hr => ?_⟩
  · obtain rfl := List.mem_singleton.1 (show r ∈ [_] from hr)
    intro p hp
    simp only [List.mem_cons, List.not_mem_nil, or_false] at hp
    rcases hp with rfl | rfl | rfl | rfl | rfl | rfl | rfl | rfl
    · unfold I64; dsimp only; omega
    · unfold I64; dsimp only; omega
    · exact h3
    · exact h4
    · exact h5
    · exact h1
    · unfold I64; dsimp only; omega
    · exact h2
  · obtain rfl := List.mem_singleton.1 (show r ∈ [_] from hr)
    simp
def Rise (n : Int) (l : List SE) : Prop := (∀ e ∈ l, GoodE e ∧ n ≤ e.f1 ∧ e.f1 ≤ 29) ∧ l.Pairwise (fun a b => a.f1 ≤ b.f1)
theorem i64_of {x : Int} (h0 : -1000000000000 ≤ x) (h1 : x ≤ 1000000000000) : I64 x := by
  unfold I64
  omega
theorem left_eq (cs : List Int) (a : Int) : kauditmill_Case_Left.f cs a = some (decide (a < (cs.length : Int)), a) := rfl
theorem events_loop (cs : List Int) : ∀ (d : Nat) (n a : Int) (x : List SE), (30 - n).toNat = d → 1 ≤ n → n ≤ 30 → (x.length : Int) ≤ n - 1 → Ok cs a →
    ∃ l a', Ev (fun k => kauditlaw41_events.l0 k x n cs a) (x ++ l, a') ∧ Rise n l ∧ (l.length : Int) ≤ 30 - n ∧ Ok cs a' := by
  intro d
  induction d with
  | zero =>
    intro n a x hd h1 h2 hx ok
    have hn : ¬ n < 30 := by omega
    refine ⟨[], a, Ev.step (fun k => by rw [kauditlaw41_events.l0]) (Ev.neg hn (Ev.step (fun k => by rw [kauditlaw41_events.j1]) (Ev.neg (fun h => Bool.noConfusion h) ?_))), ⟨by simp, List.Pairwise.nil⟩, by simp; omega, ok⟩
    rw [List.append_nil]
    exact Ev.now _
  | succ d ih =>
    intro n a x hd h1 h2 hx ok
    have hn : n < 30 := by omega
    by_cases ha : a < (cs.length : Int)
    · have hL : decide (a < (cs.length : Int)) = true := decide_eq_true ha
      have goOn : ∀ (e : SE) (b : Int), GoodE e → e.f1 = n → Ok cs b → ∃ l a', Ev (fun k => kauditlaw41_events.l0 k (x ++ [e]) (wrap64 (n + 1)) cs b) (x ++ l, a') ∧ Rise n l ∧ (l.length : Int) ≤ 30 - n ∧ Ok cs a' := by
        intro e b he h3 okb
        rw [w64 (by omega) (by omega)]
        obtain ⟨l, a', ev, hR, hl, oka⟩ := ih (n + 1) b (x ++ [e]) (by omega) (by omega) (by omega) (by simp; omega) okb
        refine ⟨e :: l, a', by rw [List.append_assoc] at ev; exact ev, ⟨fun e' h => ?_, List.pairwise_cons.2 ⟨fun e' h => by have := (hR.1 e' h).2; omega, hR.2⟩⟩, by simp; omega, oka⟩
        rcases List.mem_cons.1 h with rfl | h
        · exact ⟨he, by omega, by omega⟩
        · have := hR.1 e' h
          exact ⟨this.1, by omega, this.2.2⟩
      obtain ⟨b1, a1, e1, ok1⟩ := bool_ok ok 8
      have hxl : x.length < 2513169434916 := by omega
      cases b1 with
      | true =>
        obtain ⟨r2, a2, e2, h20, h21, _, ok2⟩ := int_ok ok1 2
        obtain ⟨l3, c3, a3, e3, g3, _, g3', ok3⟩ := event_ok ok2 (wrap64 (1 + r2)) n n
        obtain ⟨l, a', ev, hR, hl, oka⟩ := goOn ⟨wrap64 (1 + r2), n, n, l3, c3⟩ a3 ⟨g3, g3'⟩ rfl ok3
        refine ⟨l, a', ?_, hR, hl, oka⟩
        refine Ev.step (fun k => by rw [kauditlaw41_events.l0]) (Ev.pos hn (Ev.call (left_eq cs a) ?_))
        refine Ev.step (fun k => by rw [kauditlaw41_events.j1]) (Ev.pos hL (Ev.call e1 (Ev.pos rfl (Ev.call e2 (Ev.bind e3 (Ev.pos hxl ev))))))
      | false =>
        obtain ⟨r2, a2, e2, h20, h21, _, ok2⟩ := int_ok ok1 6
        obtain ⟨r3, a3, e3, h30, h31, _, ok3⟩ := int_ok ok2 6
        obtain ⟨r4, a4, e4, m4, ok4⟩ := pick_ok ok3 [1, 2, 4294967295, 1] (by simp)
        obtain ⟨r5, a5, e5, m5, ok5⟩ := pick_ok ok4 [0, 2, 3, 4, 5, 6] (by simp)
        obtain ⟨r6, a6, e6, h60, h61, _, ok6⟩ := int_ok ok5 6
        obtain ⟨r7, a7, e7, h70, h71, _, ok7⟩ := int_ok ok6 2
        obtain ⟨r8, a8, e8, h80, h81, _, ok8⟩ := int_ok ok7 3
        have w3 : wrap64 (1 + r3) = 1 + r3 := w64 (by omega) (by omega)
        have w6 : wrap64 (1 + r6) = 1 + r6 := w64 (by omega) (by omega)
        have q1 : r2 < (([(⟨#[109, 107, 100, 105, 114]⟩ : ByteArray), (⟨#[102, 111, 114, 107]⟩ : ByteArray), (⟨#[101, 120, 105, 116]⟩ : ByteArray), (⟨#[108, 111, 103, 105, 110]⟩ : ByteArray), (⟨#[107, 105, 108, 108]⟩ : ByteArray), (⟨#[102, 111, 114, 107]⟩ : ByteArray)] : List ByteArray).length : Int) := by
          simp only [List.length_cons, List.length_nil]
          omega
        have q2 : r8 < (([(⟨#[121, 101, 115]⟩ : ByteArray), (⟨#[121, 101, 115]⟩ : ByteArray), (⟨#[110, 111]⟩ : ByteArray)] : List ByteArray).length : Int) := by
          simp only [List.length_cons, List.length_nil]
          omega
        obtain ⟨l, a', ev, hR, hl, oka⟩ := goOn (actE n (rdOf ByteArray.empty [(⟨#[109, 107, 100, 105, 114]⟩ : ByteArray), (⟨#[102, 111, 114, 107]⟩ : ByteArray), (⟨#[101, 120, 105, 116]⟩ : ByteArray), (⟨#[108, 111, 103, 105, 110]⟩ : ByteArray), (⟨#[107, 105, 108, 108]⟩ : ByteArray), (⟨#[102, 111, 114, 107]⟩ : ByteArray)] r2) (wrap64 (1 + r3)) r4 r5 (wrap64 (1 + r6)) r7 (rdOf ByteArray.empty [(⟨#[121, 101, 115]⟩ : ByteArray), (⟨#[121, 101, 115]⟩ : ByteArray), (⟨#[110, 111]⟩ : ByteArray)] r8)) a8 (act_good (by rw [w3]; exact i64_of (by omega) (by omega)) (by simp at m4; exact i64_of (by omega) (by omega)) (by simp at m5; exact i64_of (by omega) (by omega)) (by rw [w6]; exact i64_of (by omega) (by omega)) (i64_of (by omega) (by omega))) rfl ok8
        refine ⟨l, a', ?_, hR, hl, oka⟩
        refine Ev.step (fun k => by rw [kauditlaw41_events.l0]) (Ev.pos hn (Ev.call (left_eq cs a) ?_))
        refine Ev.step (fun k => by rw [kauditlaw41_events.j1]) (Ev.pos hL (Ev.call e1 (Ev.neg (fun h => Bool.noConfusion h) ?_)))
        exact Ev.some (Ev.call e2 (Ev.pos h20 (Ev.pos q1 (Ev.call e3 (Ev.call e4 (Ev.call e5 (Ev.call e6 (Ev.call e7 (Ev.some (Ev.call e8 (Ev.pos h80 (Ev.pos q2 (Ev.call (act_eq _ _ _ _ _ _ _ _) (Ev.pos hxl ev))))))))))))))
    · have hL : ¬ decide (a < (cs.length : Int)) = true := by simpa using ha
      refine ⟨[], a, Ev.step (fun k => by rw [kauditlaw41_events.l0]) (Ev.pos hn (Ev.call (left_eq cs a) (Ev.step (fun k => by rw [kauditlaw41_events.j1]) (Ev.neg hL ?_)))), ⟨by simp, List.Pairwise.nil⟩, by simp; omega, ok⟩
      rw [List.append_nil]
      exact Ev.now _
theorem events_ok {cs : List Int} (ok : Ok cs 0) : ∃ l a', Ev (fun k => kauditlaw41_events.f k cs 0) (l, a') ∧ Rise 1 l ∧ l.length ≤ 29 := by
  obtain ⟨l, a', ev, hR, hl, _⟩ := events_loop cs 29 1 0 [] rfl (by omega) (by omega) (by simp) ok
  exact ⟨l, a', Ev.congr (fun k => by rw [kauditlaw41_events.f]) ev, hR, by omega⟩
end Go.Proofs.YtjgehecnamadcaaDoor.Q
