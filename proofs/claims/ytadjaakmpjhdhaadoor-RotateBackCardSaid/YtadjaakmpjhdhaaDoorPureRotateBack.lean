/- The pure statement of RotateBack. -/
import Derived.Test.YtadjaakmpjhdhaaDoorQx7
import Derived.Test.YtadjaakmpjhdhaaDoorKaDrop
import Derived.Test.YtadjaakmpjhdhaaDoorKaNumber
namespace Go.Proofs.YtadjaakmpjhdhaaDoor.Q.PRotateBack
open Go.RowKit Go.Proofs.YtadjaakmpjhdhaaDoorW.PrintWords
set_option linter.unusedVariables false
set_option linter.unusedSimpArgs false

theorem isD_dig {d : Nat} (h : d < 10) : isD (dig d) = true ∧ ((dig d).toNat : Int) = 48 + d := by
  have : (dig d).toNat = 48 + d := by unfold dig; simp; omega
  rw [isD_iff, this]
  omega
theorem core_nm {n : Nat} (h0 : 1 ≤ n) (h1 : n ≤ 1000) (z : Bool) : core 108 111 103 45 (dig (n / 1000)) (dig (n / 100 % 10)) (dig (n / 10 % 10)) (dig (n % 10)) z = ((n : Int), true, z) := by
  have d1 := isD_dig (d := n / 1000) (by omega)
  have d2 := isD_dig (d := n / 100 % 10) (by omega)
  have d3 := isD_dig (d := n / 10 % 10) (by omega)
  have d4 := isD_dig (d := n % 10) (by omega)
  have hv : val4 (dig (n / 1000)) (dig (n / 100 % 10)) (dig (n / 10 % 10)) (dig (n % 10)) = n := by
    unfold val4
    rw [d1.2, d2.2, d3.2, d4.2]
    omega
  unfold core
  rw [hv, if_pos ⟨⟨rfl, rfl, rfl, rfl⟩, ⟨d1.1, d2.1, d3.1, d4.1⟩, by omega, by omega⟩]
theorem number_plain {n : Nat} (h0 : 1 ≤ n) (h1 : n ≤ 1000) : Ev (fun k => rotate_Number.f k (nm4 n)) ((n : Int), true, false) := by
  rw [← core_nm h0 h1 false]
  have hex : ((nm4 n).extract ((nm4 n).size - (⟨#[46, 122]⟩ : ByteArray).size) (nm4 n).size) = (⟨#[dig (n / 10 % 10), dig (n % 10)]⟩ : ByteArray) := rfl
  have hs8 : (nm4 n).size < 9223372036854775807 := by rw [show (nm4 n).size = 8 from rfl]; omega
  have hno : (⟨#[46, 122]⟩ : ByteArray).size ≤ (nm4 n).size → ((nm4 n).extract ((nm4 n).size - (⟨#[46, 122]⟩ : ByteArray).size) (nm4 n).size).toList ≠ (⟨#[46, 122]⟩ : ByteArray).toList := by
    intro _ b
    rw [hex] at b
    have := isD_iff.1 (isD_dig (d := n / 10 % 10) (by omega)).1
    have hb : dig (n / 10 % 10) = 46 ∧ dig (n % 10) = 122 := by simpa [ByteArray.toList_eq] using b
    rw [hb.1] at this
    simp at this
  refine Ev.congr (fun k => by rw [rotate_Number.f, suf_no hs8 hno, Option.bind_some]; rfl) (numT_core _ _ _ _ _ _ _ _ false)
theorem number_packed {n : Nat} (h0 : 1 ≤ n) (h1 : n ≤ 1000) : Ev (fun k => rotate_Number.f k (nm4 n ++ (⟨#[46, 122]⟩ : ByteArray))) ((n : Int), true, true) := by
  rw [← core_nm h0 h1 true]
  have hex : ((nm4 n ++ (⟨#[46, 122]⟩ : ByteArray)).extract ((nm4 n ++ (⟨#[46, 122]⟩ : ByteArray)).size - (⟨#[46, 122]⟩ : ByteArray).size) (nm4 n ++ (⟨#[46, 122]⟩ : ByteArray)).size) = (⟨#[46, 122]⟩ : ByteArray) := rfl
  have hex2 : ((nm4 n ++ (⟨#[46, 122]⟩ : ByteArray)).extract 0 ((nm4 n ++ (⟨#[46, 122]⟩ : ByteArray)).size - (⟨#[46, 122]⟩ : ByteArray).size)) = nm4 n := rfl
  have h10 : (nm4 n ++ (⟨#[46, 122]⟩ : ByteArray)).size = 10 := rfl
  refine Ev.congr (fun k => by rw [rotate_Number.f, suf_yes (by rw [h10]; omega) (by rw [h10]; simp [ByteArray.size]) (by rw [hex]), hex2, Option.bind_some]; rfl) (numT_core _ _ _ _ _ _ _ _ true)
theorem nm4_inj {n m : Nat} (hn : n ≤ 1000) (hm : m ≤ 1000) : (nm4 n).toList = (nm4 m).toList ↔ n = m := by
  constructor
  · intro h
    have h2 : dig (n / 1000) = dig (m / 1000) ∧ dig (n / 100 % 10) = dig (m / 100 % 10) ∧ dig (n / 10 % 10) = dig (m / 10 % 10) ∧ dig (n % 10) = dig (m % 10) := by simpa [ByteArray.toList_eq, nm4] using h
    have e1 := (isD_dig (d := n / 1000) (by omega)).2
    have e2 := (isD_dig (d := n / 100 % 10) (by omega)).2
    have e3 := (isD_dig (d := n / 10 % 10) (by omega)).2
    have e4 := (isD_dig (d := n % 10) (by omega)).2
    have f1 := (isD_dig (d := m / 1000) (by omega)).2
    have f2 := (isD_dig (d := m / 100 % 10) (by omega)).2
    have f3 := (isD_dig (d := m / 10 % 10) (by omega)).2
    have f4 := (isD_dig (d := m % 10) (by omega)).2
    rw [h2.1] at e1
    rw [h2.2.1] at e2
    rw [h2.2.2.1] at e3
    rw [h2.2.2.2] at e4
    omega
  · rintro rfl
    rfl
theorem small {x : Int} (h : (Lit.int .u16 x).wf = true) : ∃ n : Nat, wrap64 (1 + (Int.tmod (wrap64 x) 1000)) = (n : Int) ∧ 1 ≤ n ∧ n ≤ 1000 := by
  simp only [Lit.wf, Bool.and_eq_true, decide_eq_true_eq] at h
  have h0 : 0 ≤ x := h.1
  have h1 : x ≤ 65535 := h.2
  rw [w64 (x := x) (by omega) (by omega), Int.tmod_eq_emod_of_nonneg h0, w64 (by omega) (by omega)]
  exact ⟨(1 + x % 1000).toNat, by omega, by omega, by omega⟩
theorem packed_n {n : Nat} (h0 : 1 ≤ n) (h1 : n ≤ 1000) : rotate_Packed.f (n : Int) = some (nm4 n ++ (⟨#[46, 122]⟩ : ByteArray)) := by
  unfold rotate_Packed.f rotate_Name.f
  rw [nmB_nm4 h0 h1, Option.bind_some, if_neg (by simp [ByteArray.toList_eq, nm4]), if_pos (by simp [nm4, ByteArray.size])]
theorem pure : ∀ (x0 : Int) (x1 : Int), (Lit.int .u16 x0).wf = true → (Lit.int .u16 x1).wf = true → ∃ k, kauditlaw26_RotateBack.f k x0 x1 = some true := by
  intro x0 x1 w0 w1
  obtain ⟨n, en, n0, n1⟩ := small w0
  obtain ⟨m, em, m0, m1⟩ := small w1
  have hn : rotate_Name.f (n : Int) = some (nm4 n) := by unfold rotate_Name.f; rw [nmB_nm4 n0 n1]
  have hm : rotate_Name.f (m : Int) = some (nm4 m) := by unfold rotate_Name.f; rw [nmB_nm4 m0 m1]
  have h : Ev (fun k => kauditlaw26_RotateBack.f k x0 x1) true := by
    refine Ev.congr (fun k => by rw [kauditlaw26_RotateBack.f, en, em, hn, Option.bind_some]) (Ev.bind (number_plain n0 n1) ?_)
    refine Ev.congr (fun k => by rw [packed_n n0 n1, Option.bind_some]) (Ev.bind (number_packed n0 n1) ?_)
    refine Ev.pos rfl (Ev.neg (by simp) (Ev.pos rfl (Ev.pos rfl (Ev.pos rfl (Ev.pos rfl ?_)))))
    refine Ev.congr (fun k => by rw [Option.bind_some, hm, Option.bind_some]) (Ev.pos ?_ (Ev.bind begun_ev (Ev.now _)))
    have := nm4_inj n1 m1
    simp only [beq_iff_eq]
    rw [Bool.eq_iff_iff]
    simp only [beq_iff_eq]
    rw [this]
    omega
  obtain ⟨K, hK⟩ := h
  exact ⟨K, hK K (Nat.le_refl _)⟩
end Go.Proofs.YtadjaakmpjhdhaaDoor.Q.PRotateBack
