/- Names of files and their numbers, as plain functions: the program's and the reference's agree. -/
import Derived.Test.YtadjaakmpjhdhaaDoorQx6
import Derived.Test.YtadjaakmpjhdhaaDoorQx5
import Derived.Test.YtadjaakmpjhdhaaDoorQx2
import Derived.Test.YtadjaakmpjhdhaaDoorKaAdd
namespace Go.Proofs.YtadjaakmpjhdhaaDoor.Q
open Go.RowKit Go.Proofs.YtadjaakmpjhdhaaDoorW.PrintWords
set_option linter.unusedVariables false
set_option linter.unusedSimpArgs false

def dig (d : Nat) : UInt8 := UInt8.ofNat (48 + d)
def nm4 (n : Nat) : ByteArray := ⟨#[108, 111, 103, 45, dig (n / 1000), dig (n / 100 % 10), dig (n / 10 % 10), dig (n % 10)]⟩
theorem dec4 {n : Nat} (h0 : n < 10000) (h1 : 1000 ≤ n) : Lib.decDigits n = [dig (n / 1000), dig (n / 100 % 10), dig (n / 10 % 10), dig (n % 10)] := by
  rw [Lib.decDigits, dif_neg (by omega), Lib.decDigits, dif_neg (by omega), Lib.decDigits_two (by omega) (by omega)]
  simp only [dig, List.cons_append, List.nil_append]
  rw [show n / 10 / 10 / 10 = n / 1000 by omega, show n / 10 / 10 % 10 = n / 100 % 10 by omega]
theorem dec3 {n : Nat} (h0 : n < 1000) (h1 : 100 ≤ n) : Lib.decDigits n = [dig (n / 100 % 10), dig (n / 10 % 10), dig (n % 10)] := by
  rw [Lib.decDigits, dif_neg (by omega), Lib.decDigits_two (by omega) (by omega)]
  simp only [dig, List.cons_append, List.nil_append]
  rw [show n / 10 / 10 = n / 100 % 10 by omega]
theorem nmB_nm4 {n : Nat} (h0 : 1 ≤ n) (h1 : n ≤ 1000) : nmB (n : Int) = nm4 n := by
  unfold nmB nm4
  rw [if_neg (by omega), if_neg (by omega), Lib.itoa_nonneg]
  by_cases a1 : n < 10
  · rw [Lib.decDigits_one a1, show n / 1000 = 0 by omega, show n / 100 % 10 = 0 by omega, show n / 10 % 10 = 0 by omega, show n % 10 = n by omega]
    rfl
  · by_cases a2 : n < 100
    · rw [Lib.decDigits_two a1 a2, show n / 1000 = 0 by omega, show n / 100 % 10 = 0 by omega, show n / 10 % 10 = n / 10 by omega]
      rfl
    · by_cases a3 : n < 1000
      · rw [dec3 a3 (by omega), show n / 1000 = 0 by omega]
        rfl
      · rw [dec4 (by omega) (by omega)]
        rfl
theorem nmB_out {n : Int} (h : n < 1 ∨ 1000 < n) : nmB n = ⟨#[]⟩ := by
  unfold nmB
  split
  · rfl
  · rw [if_pos (by omega)]
theorem enc_dig {d : Nat} (h : d < 10) : Utf8.encode (wrap32 (wrap64 (48 + (d : Int)))) = ⟨#[dig d]⟩ := by
  have : d = 0 ∨ d = 1 ∨ d = 2 ∨ d = 3 ∨ d = 4 ∨ d = 5 ∨ d = 6 ∨ d = 7 ∨ d = 8 ∨ d = 9 := by omega
  rcases this with h | h | h | h | h | h | h | h | h | h <;> subst h <;> decide +kernel
theorem digit_at {n c : Nat} (h : n ≤ 100000) (hc : 0 < c) : (Int.tmod (wrap64 (Int.tdiv (n : Int) (c : Int))) 10) = ((n / c % 10 : Nat) : Int) := by
  have h2 := Nat.div_le_self n c
  have hq : Int.tdiv (n : Int) (c : Int) = ((n / c : Nat) : Int) := by rw [Int.tdiv_eq_ediv_of_nonneg (by omega)]; rfl
  rw [hq]
  generalize n / c = q at h2
  rw [w64 (by omega) (by omega), Int.tmod_eq_emod_of_nonneg (by omega)]
  rfl
theorem refname_in {n : Nat} (h0 : 1 ≤ n) (h1 : n ≤ 1000) : Ev (fun k => kauditref26_Name.f k (n : Int)) (nm4 n) := by
  refine Ev.congr (fun k => by rw [kauditref26_Name.f]) (Ev.neg (by omega) (Ev.step (fun k => by rw [kauditref26_Name.j0]) (Ev.neg (by simp; omega) ?_)))
  refine Ev.congr (fun k => by rw [Option.bind_some]) ?_
  refine Ev.step (fun k => by rw [kauditref26_Name.l0]) (Ev.pos (by simp) (Ev.pos (by simp) (Ev.pos (by simp) (Ev.neg (by simp [rd]) ?_))))
  rw [show rd ([1000, 100, 10, 1] : List Int) 0 = ((1000 : Nat) : Int) from rfl, digit_at (by omega) (by omega), enc_dig (Nat.mod_lt _ (by omega))]
  refine Ev.pos (by simp [ByteArray.size_append, ByteArray.size]) ?_
  rw [show wrap64 ((0 : Int) + 1) = 1 from by unfold wrap64; rfl]
  refine Ev.step (fun k => by rw [kauditref26_Name.l0]) (Ev.pos (by simp) (Ev.pos (by simp) (Ev.pos (by simp) (Ev.neg (by simp [rd]) ?_))))
  rw [show rd ([1000, 100, 10, 1] : List Int) 1 = ((100 : Nat) : Int) from rfl, digit_at (by omega) (by omega), enc_dig (Nat.mod_lt _ (by omega))]
  refine Ev.pos (by simp [ByteArray.size_append, ByteArray.size]) ?_
  rw [show wrap64 ((1 : Int) + 1) = 2 from by unfold wrap64; rfl]
  refine Ev.step (fun k => by rw [kauditref26_Name.l0]) (Ev.pos (by simp) (Ev.pos (by simp) (Ev.pos (by simp) (Ev.neg (by simp [rd]) ?_))))
  rw [show rd ([1000, 100, 10, 1] : List Int) 2 = ((10 : Nat) : Int) from rfl, digit_at (by omega) (by omega), enc_dig (Nat.mod_lt _ (by omega))]
  refine Ev.pos (by simp [ByteArray.size_append, ByteArray.size]) ?_
  rw [show wrap64 ((2 : Int) + 1) = 3 from by unfold wrap64; rfl]
  refine Ev.step (fun k => by rw [kauditref26_Name.l0]) (Ev.pos (by simp) (Ev.pos (by simp) (Ev.pos (by simp) (Ev.neg (by simp [rd]) ?_))))
  rw [show rd ([1000, 100, 10, 1] : List Int) 3 = ((1 : Nat) : Int) from rfl, digit_at (by omega) (by omega), enc_dig (Nat.mod_lt _ (by omega))]
  refine Ev.pos (by simp [ByteArray.size_append, ByteArray.size]) ?_
  rw [show wrap64 ((3 : Int) + 1) = 4 from by unfold wrap64; rfl]
  refine Ev.step (fun k => by rw [kauditref26_Name.l0]) (Ev.neg (by simp) ?_)
  have : nm4 n = (((((⟨#[108, 111, 103, 45]⟩ : ByteArray) ++ (⟨#[dig (n / 1000 % 10)]⟩ : ByteArray)) ++ (⟨#[dig (n / 100 % 10)]⟩ : ByteArray)) ++ (⟨#[dig (n / 10 % 10)]⟩ : ByteArray)) ++ (⟨#[dig (n / 1 % 10)]⟩ : ByteArray)) := by
    rw [show n / 1 = n from Nat.div_one n, show n / 1000 % 10 = n / 1000 by omega]
    rfl
  rw [this]
  exact Ev.now _
theorem refname_ev (n : Int) : Ev (fun k => kauditref26_Name.f k n) (nmB n) := by
  by_cases h : 1 ≤ n ∧ n ≤ 1000
  · obtain ⟨u, rfl⟩ := Int.eq_ofNat_of_zero_le (show 0 ≤ n by omega)
    rw [nmB_nm4 (by omega) (by omega)]
    exact refname_in (by omega) (by omega)
  · rw [nmB_out (by omega)]
    by_cases h0 : n < 1
    · exact Ev.congr (fun k => by rw [kauditref26_Name.f]) (Ev.pos h0 (Ev.step (fun k => by rw [kauditref26_Name.j0]) (Ev.pos rfl (Ev.now _))))
    · exact Ev.congr (fun k => by rw [kauditref26_Name.f]) (Ev.neg h0 (Ev.step (fun k => by rw [kauditref26_Name.j0]) (Ev.pos (by simp; omega) (Ev.now _))))

/-- What the eight bytes of a name say. -/
def isD (b : UInt8) : Bool := decide (48 ≤ (b.toNat : Int) ∧ (b.toNat : Int) ≤ 57)
def val4 (b4 b5 b6 b7 : UInt8) : Int := (((b4.toNat : Int) - 48) * 1000 + ((b5.toNat : Int) - 48) * 100 + ((b6.toNat : Int) - 48) * 10 + ((b7.toNat : Int) - 48))
def core (b0 b1 b2 b3 b4 b5 b6 b7 : UInt8) (z : Bool) : Int × Bool × Bool :=
  if (b0 = 108 ∧ b1 = 111 ∧ b2 = 103 ∧ b3 = 45) ∧ (isD b4 = true ∧ isD b5 = true ∧ isD b6 = true ∧ isD b7 = true) ∧ 1 ≤ val4 b4 b5 b6 b7 ∧ val4 b4 b5 b6 b7 ≤ 1000 then (val4 b4 b5 b6 b7, true, z) else (0, false, false)
theorem isD_iff {b : UInt8} : isD b = true ↔ 48 ≤ (b.toNat : Int) ∧ (b.toNat : Int) ≤ 57 := by simp [isD]
theorem dig_eq {d : Nat} {b : UInt8} (hd : d < 10) (h : (b.toNat : Int) - 48 = d) : dig d = b := by
  unfold dig
  have : b.toNat = 48 + d := by omega
  rw [← this]
  simp
/-- The digits, one after the other. -/
theorem chk {P : Prop} {f : Nat → Option (Int × Bool × Bool)} {r : Int × Bool × Bool} {b : UInt8} (x : Int) (hx : x = (b.toNat : Int)) (h0 : isD b = true → Ev f r) (h1 : isD b = false → r = (0, false, false)) :
    Ev (fun k => if x < 48 then some (0, false, false) else if x > 57 then some (0, false, false) else f k) r := by
  subst hx
  by_cases hb : isD b = true
  · have := isD_iff.1 hb
    exact Ev.neg (by omega) (Ev.neg (by omega) (h0 hb))
  · have hr := h1 (by simpa using hb)
    subst hr
    rw [isD_iff] at hb
    by_cases hl : (b.toNat : Int) < 48
    · exact Ev.pos hl (Ev.now _)
    · exact Ev.neg hl (Ev.pos (by omega) (Ev.now _))
theorem nm4_eq {b0 b1 b2 b3 b4 b5 b6 b7 : UInt8} (h4 : isD b4 = true) (h5 : isD b5 = true) (h6 : isD b6 = true) (h7 : isD b7 = true) (h0 : 1 ≤ val4 b4 b5 b6 b7) (h1 : val4 b4 b5 b6 b7 ≤ 1000) :
    nmB (val4 b4 b5 b6 b7) = ⟨#[108, 111, 103, 45, b4, b5, b6, b7]⟩ := by
  rw [isD_iff] at h4 h5 h6 h7
  obtain ⟨n, hn⟩ := Int.eq_ofNat_of_zero_le (show 0 ≤ val4 b4 b5 b6 b7 by omega)
  rw [hn, nmB_nm4 (by omega) (by omega)]
  unfold val4 at hn
  unfold nm4
  rw [dig_eq (b := b4) (by omega) (by omega), dig_eq (b := b5) (by omega) (by omega), dig_eq (b := b6) (by omega) (by omega), dig_eq (b := b7) (by omega) (by omega)]
theorem ref_core (b0 b1 b2 b3 b4 b5 b6 b7 : UInt8) (z : Bool) : Ev (fun k => kauditref26_Number.l0 k (⟨#[b0, b1, b2, b3, b4, b5, b6, b7]⟩ : ByteArray) z 0 4) (core b0 b1 b2 b3 b4 b5 b6 b7 z) := by
  have r4 := bt_range (⟨#[b4]⟩ : ByteArray) 0
  refine Ev.step (fun k => by rw [kauditref26_Number.l0]) (Ev.pos (by decide) (Ev.pos (by decide) (Ev.pos (by simp [ByteArray.size]) ?_)))
  refine chk (P := True) (b := b4) _ rfl (fun d4 => ?_) (fun d => if_neg (by simp [d]))
  have e4 := isD_iff.1 d4
  rw [show bt (⟨#[b0, b1, b2, b3, b4, b5, b6, b7]⟩ : ByteArray) 4 = (b4.toNat : Int) from rfl, w64 (x := 10 * 0) (by omega) (by omega), w64 (x := _ + _) (by omega) (by omega), w64 (by omega) (by omega)]
  refine Ev.step (fun k => by rw [kauditref26_Number.l0]) (Ev.pos (by decide) (Ev.pos (by decide) (Ev.pos (by simp [ByteArray.size]) ?_)))
  refine chk (P := True) (b := b5) _ rfl (fun d5 => ?_) (fun d => if_neg (by simp [d]))
  have e5 := isD_iff.1 d5
  rw [show bt (⟨#[b0, b1, b2, b3, b4, b5, b6, b7]⟩ : ByteArray) (4 + 1) = (b5.toNat : Int) from rfl, w64 (x := 10 * _) (by omega) (by omega), w64 (x := 10 * _ + _) (by omega) (by omega), w64 (by omega) (by omega)]
  refine Ev.step (fun k => by rw [kauditref26_Number.l0]) (Ev.pos (by decide) (Ev.pos (by decide) (Ev.pos (by simp [ByteArray.size]) ?_)))
  refine chk (P := True) (b := b6) _ rfl (fun d6 => ?_) (fun d => if_neg (by simp [d]))
  have e6 := isD_iff.1 d6
  rw [show bt (⟨#[b0, b1, b2, b3, b4, b5, b6, b7]⟩ : ByteArray) (4 + 1 + 1) = (b6.toNat : Int) from rfl, w64 (x := 10 * _) (by omega) (by omega), w64 (x := 10 * _ + _) (by omega) (by omega), w64 (by omega) (by omega)]
  refine Ev.step (fun k => by rw [kauditref26_Number.l0]) (Ev.pos (by decide) (Ev.pos (by decide) (Ev.pos (by simp [ByteArray.size]) ?_)))
  refine chk (P := True) (b := b7) _ rfl (fun d7 => ?_) (fun d => if_neg (by simp [d]))
  have e7 := isD_iff.1 d7
  rw [show bt (⟨#[b0, b1, b2, b3, b4, b5, b6, b7]⟩ : ByteArray) (4 + 1 + 1 + 1) = (b7.toNat : Int) from rfl, w64 (x := 10 * _) (by omega) (by omega), w64 (x := 10 * _ + _) (by omega) (by omega), w64 (by omega) (by omega)]
  refine Ev.step (fun k => by rw [kauditref26_Number.l0]) (Ev.neg (by decide) ?_)
  have hv : (10 * (10 * (10 * (10 * 0 + ((b4.toNat : Int) - 48) % 256) + ((b5.toNat : Int) - 48) % 256) + ((b6.toNat : Int) - 48) % 256) + ((b7.toNat : Int) - 48) % 256) = val4 b4 b5 b6 b7 := by unfold val4; omega
  rw [hv]
  refine Ev.bind (refname_ev _) ?_
  by_cases h : (b0 = 108 ∧ b1 = 111 ∧ b2 = 103 ∧ b3 = 45) ∧ 1 ≤ val4 b4 b5 b6 b7 ∧ val4 b4 b5 b6 b7 ≤ 1000
  · obtain ⟨⟨rfl, rfl, rfl, rfl⟩, h0, h1⟩ := h
    rw [nm4_eq (b0 := b4) (b1 := b4) (b2 := b4) (b3 := b4) d4 d5 d6 d7 h0 h1]
    refine Ev.pos rfl ?_
    rw [show core 108 111 103 45 b4 b5 b6 b7 z = (val4 b4 b5 b6 b7, true, z) from if_pos ⟨⟨rfl, rfl, rfl, rfl⟩, ⟨d4, d5, d6, d7⟩, h0, h1⟩]
    exact Ev.now _
  · rw [show core b0 b1 b2 b3 b4 b5 b6 b7 z = (0, false, false) from if_neg (fun c => h ⟨c.1, c.2.2⟩)]
    refine Ev.neg (fun c => h ?_) (Ev.now _)
    by_cases hr : 1 ≤ val4 b4 b5 b6 b7 ∧ val4 b4 b5 b6 b7 ≤ 1000
    · rw [nm4_eq (b0 := b4) (b1 := b4) (b2 := b4) (b3 := b4) d4 d5 d6 d7 hr.1 hr.2] at c
      have c' := congrArg ByteArray.mk (congrArg List.toArray c)
      refine ⟨?_, hr⟩
      have c2 : [108, 111, 103, 45, b4, b5, b6, b7] = [b0, b1, b2, b3, b4, b5, b6, b7] := by simpa [ByteArray.toList_eq] using c
      simp only [List.cons.injEq] at c2
      exact ⟨c2.1.symm, c2.2.1.symm, c2.2.2.1.symm, c2.2.2.2.1.symm⟩
    · rw [nmB_out (by omega)] at c
      have := congrArg List.length c
      simp [ByteArray.toList_eq] at this
theorem num_core (b4 b5 b6 b7 : UInt8) (z : Bool) : Ev (fun k => rotate_Number.l0 k 0 z (⟨#[b4, b5, b6, b7]⟩ : ByteArray) ((⟨#[b4, b5, b6, b7]⟩ : ByteArray).size : Int) 0) (core 108 111 103 45 b4 b5 b6 b7 z) := by
  rw [show ((⟨#[b4, b5, b6, b7]⟩ : ByteArray).size : Int) = 4 from rfl]
  refine Ev.step (fun k => by rw [rotate_Number.l0]) (Ev.pos (by decide) (Ev.pos (by decide) (Ev.pos (by simp [ByteArray.size]) ?_)))
  refine chk (P := True) (b := b4) _ rfl (fun d4 => ?_) (fun d => if_neg (by simp [d]))
  have e4 := isD_iff.1 d4
  rw [show bt (⟨#[b4, b5, b6, b7]⟩ : ByteArray) 0 = (b4.toNat : Int) from rfl, w64 (x := 0 * 10) (by omega) (by omega), w64 (x := 0 * 10 + _) (by omega) (by omega), w64 (by omega) (by omega)]
  refine Ev.step (fun k => by rw [rotate_Number.l0]) (Ev.pos (by decide) (Ev.pos (by decide) (Ev.pos (by simp [ByteArray.size]) ?_)))
  refine chk (P := True) (b := b5) _ rfl (fun d5 => ?_) (fun d => if_neg (by simp [d]))
  have e5 := isD_iff.1 d5
  rw [show bt (⟨#[b4, b5, b6, b7]⟩ : ByteArray) (0 + 1) = (b5.toNat : Int) from rfl, w64 (x := _ * 10) (by omega) (by omega), w64 (x := _ * 10 + _) (by omega) (by omega), w64 (by omega) (by omega)]
  refine Ev.step (fun k => by rw [rotate_Number.l0]) (Ev.pos (by decide) (Ev.pos (by decide) (Ev.pos (by simp [ByteArray.size]) ?_)))
  refine chk (P := True) (b := b6) _ rfl (fun d6 => ?_) (fun d => if_neg (by simp [d]))
  have e6 := isD_iff.1 d6
  rw [show bt (⟨#[b4, b5, b6, b7]⟩ : ByteArray) (0 + 1 + 1) = (b6.toNat : Int) from rfl, w64 (x := _ * 10) (by omega) (by omega), w64 (x := _ * 10 + _) (by omega) (by omega), w64 (by omega) (by omega)]
  refine Ev.step (fun k => by rw [rotate_Number.l0]) (Ev.pos (by decide) (Ev.pos (by decide) (Ev.pos (by simp [ByteArray.size]) ?_)))
  refine chk (P := True) (b := b7) _ rfl (fun d7 => ?_) (fun d => if_neg (by simp [d]))
  have e7 := isD_iff.1 d7
  rw [show bt (⟨#[b4, b5, b6, b7]⟩ : ByteArray) (0 + 1 + 1 + 1) = (b7.toNat : Int) from rfl, w64 (x := _ * 10) (by omega) (by omega), w64 (x := _ * 10 + _) (by omega) (by omega), w64 (by omega) (by omega)]
  refine Ev.step (fun k => by rw [rotate_Number.l0]) (Ev.neg (by decide) ?_)
  have hv : (((((0 * 10 + ((b4.toNat : Int) - 48) % 256) * 10 + ((b5.toNat : Int) - 48) % 256) * 10 + ((b6.toNat : Int) - 48) % 256) * 10) + ((b7.toNat : Int) - 48) % 256) = val4 b4 b5 b6 b7 := by unfold val4; omega
  rw [hv]
  by_cases h0 : val4 b4 b5 b6 b7 < 1
  · rw [show core 108 111 103 45 b4 b5 b6 b7 z = (0, false, false) from if_neg (fun c => absurd c.2.2.1 (by omega))]
    exact Ev.pos h0 (Ev.now _)
  · refine Ev.neg h0 ?_
    by_cases h1 : val4 b4 b5 b6 b7 > 1000
    · rw [show core 108 111 103 45 b4 b5 b6 b7 z = (0, false, false) from if_neg (fun c => absurd c.2.2.2 (by omega))]
      exact Ev.pos h1 (Ev.now _)
    · rw [show core 108 111 103 45 b4 b5 b6 b7 z = (val4 b4 b5 b6 b7, true, z) from if_pos ⟨⟨rfl, rfl, rfl, rfl⟩, ⟨d4, d5, d6, d7⟩, by omega, by omega⟩]
      exact Ev.neg h1 (Ev.now _)

/-- A string of eight bytes. -/
theorem eight {s : ByteArray} (h : s.size = 8) : ∃ b0 b1 b2 b3 b4 b5 b6 b7, s = ⟨#[b0, b1, b2, b3, b4, b5, b6, b7]⟩ := by
  obtain ⟨⟨l⟩⟩ := s
  match l, h with
  | [b0, b1, b2, b3, b4, b5, b6, b7], _ => exact ⟨b0, b1, b2, b3, b4, b5, b6, b7, rfl⟩
theorem ten {s : ByteArray} (h : s.size = 10) : ∃ b0 b1 b2 b3 b4 b5 b6 b7 b8 b9, s = ⟨#[b0, b1, b2, b3, b4, b5, b6, b7, b8, b9]⟩ := by
  obtain ⟨⟨l⟩⟩ := s
  match l, h with
  | [b0, b1, b2, b3, b4, b5, b6, b7, b8, b9], _ => exact ⟨b0, b1, b2, b3, b4, b5, b6, b7, b8, b9, rfl⟩
theorem suf_yes {s p : ByteArray} (hs : s.size < 9223372036854775807) (h : p.size ≤ s.size) (e : (s.extract (s.size - p.size) s.size).toList = p.toList) : strings_CutSuffix.f s p = some (s.extract 0 (s.size - p.size), true) := by
  have hw : wrap64 ((s.size : Int) - (p.size : Int)) = ((s.size - p.size : Nat) : Int) := by rw [w64 (by omega) (by omega)]; omega
  unfold strings_CutSuffix.f stringslite_CutSuffix.f stringslite_HasSuffix.f
  rw [hw, if_pos (by omega), if_pos (by omega), if_pos (by omega), Option.bind_some, Int.toNat_natCast, e, if_pos (by simp), if_pos (by omega), if_pos (by omega)]
  rfl
theorem suf_no {s p : ByteArray} (hs : s.size < 9223372036854775807) (h : p.size ≤ s.size → (s.extract (s.size - p.size) s.size).toList ≠ p.toList) : strings_CutSuffix.f s p = some (s, false) := by
  unfold strings_CutSuffix.f stringslite_CutSuffix.f stringslite_HasSuffix.f
  by_cases hp : p.size ≤ s.size
  · have hw : wrap64 ((s.size : Int) - (p.size : Int)) = ((s.size - p.size : Nat) : Int) := by rw [w64 (by omega) (by omega)]; omega
    rw [hw, if_pos (by omega), if_pos (by omega), if_pos (by omega), Option.bind_some, Int.toNat_natCast, if_neg (by simpa using h hp)]
    rfl
  · rw [if_neg (by omega), Option.bind_some, if_neg (by simp)]
    rfl
theorem pre_yes {s p : ByteArray} (h : p.size ≤ s.size) (e : (s.extract 0 p.size).toList = p.toList) : strings_CutPrefix.f s p = some (s.extract p.size s.size, true) := by
  unfold strings_CutPrefix.f stringslite_CutPrefix.f stringslite_HasPrefix.f
  rw [if_pos (by omega), if_pos (by omega), if_pos (by omega), Option.bind_some, Int.toNat_natCast, e, if_pos (by simp), if_pos (by omega), if_pos (by omega)]
  rfl
theorem pre_no {s p : ByteArray} (h : p.size ≤ s.size → (s.extract 0 p.size).toList ≠ p.toList) : strings_CutPrefix.f s p = some (s, false) := by
  unfold strings_CutPrefix.f stringslite_CutPrefix.f stringslite_HasPrefix.f
  by_cases hp : p.size ≤ s.size
  · rw [if_pos (by omega), if_pos (by omega), if_pos (by omega), Option.bind_some, Int.toNat_natCast, if_neg (by simpa using h hp)]
    rfl
  · rw [if_neg (by omega), Option.bind_some, if_neg (by simp)]
    rfl
/-- The program's number of what is left of a name without its ending. -/
def numT (k : Nat) (t : ByteArray) (z : Bool) : Option (Int × Bool × Bool) := (strings_CutPrefix.f t (⟨#[108, 111, 103, 45]⟩ : ByteArray)).bind fun bt141 => (if bt141.2 = true then (rotate_Number.j0 k 0 z bt141.1 ((bt141.1.size : Int) != 4)) else (rotate_Number.j0 k 0 z bt141.1 true))
theorem numT_bad {t : ByteArray} (z : Bool) (h : t.size ≠ 8) : Ev (fun k => numT k t z) (0, false, false) := by
  by_cases hp : (⟨#[108, 111, 103, 45]⟩ : ByteArray).size ≤ t.size ∧ (t.extract 0 (⟨#[108, 111, 103, 45]⟩ : ByteArray).size).toList = (⟨#[108, 111, 103, 45]⟩ : ByteArray).toList
  · have hs : (⟨#[108, 111, 103, 45]⟩ : ByteArray).size = 4 := rfl
    refine Ev.congr (fun k => by rw [numT, pre_yes hp.1 hp.2, Option.bind_some]) (Ev.pos rfl (Ev.step (fun k => by rw [rotate_Number.j0]) (Ev.pos ?_ (Ev.now _))))
    simp only [bne_iff_ne, ne_eq, ByteArray.size_extract]
    omega
  · exact Ev.congr (fun k => by rw [numT, pre_no (fun a b => hp ⟨a, b⟩), Option.bind_some]) (Ev.neg (by simp) (Ev.step (fun k => by rw [rotate_Number.j0]) (Ev.pos rfl (Ev.now _))))
theorem numT_core (b0 b1 b2 b3 b4 b5 b6 b7 : UInt8) (z : Bool) : Ev (fun k => numT k (⟨#[b0, b1, b2, b3, b4, b5, b6, b7]⟩ : ByteArray) z) (core b0 b1 b2 b3 b4 b5 b6 b7 z) := by
  have hex : ((⟨#[b0, b1, b2, b3, b4, b5, b6, b7]⟩ : ByteArray).extract 0 (⟨#[108, 111, 103, 45]⟩ : ByteArray).size) = (⟨#[b0, b1, b2, b3]⟩ : ByteArray) := rfl
  have hex2 : ((⟨#[b0, b1, b2, b3, b4, b5, b6, b7]⟩ : ByteArray).extract (⟨#[108, 111, 103, 45]⟩ : ByteArray).size (⟨#[b0, b1, b2, b3, b4, b5, b6, b7]⟩ : ByteArray).size) = (⟨#[b4, b5, b6, b7]⟩ : ByteArray) := rfl
  have hi : (⟨#[b0, b1, b2, b3]⟩ : ByteArray).toList = (⟨#[108, 111, 103, 45]⟩ : ByteArray).toList ↔ (b0 = 108 ∧ b1 = 111 ∧ b2 = 103 ∧ b3 = 45) := by simp [ByteArray.toList_eq]
  by_cases hp : b0 = 108 ∧ b1 = 111 ∧ b2 = 103 ∧ b3 = 45
  · refine Ev.congr (fun k => by rw [numT, pre_yes (by simp [ByteArray.size]) (by rw [hex]; exact hi.2 hp), Option.bind_some]) (Ev.pos rfl (Ev.step (fun k => by rw [rotate_Number.j0]) ?_))
    rw [hex2]
    refine Ev.neg (by simp [ByteArray.size]) ?_
    obtain ⟨rfl, rfl, rfl, rfl⟩ := hp
    exact num_core b4 b5 b6 b7 z
  · have hc : core b0 b1 b2 b3 b4 b5 b6 b7 z = (0, false, false) := if_neg (fun c => hp c.1)
    rw [hc]
    exact Ev.congr (fun k => by rw [numT, pre_no (fun _ b => hp (hi.1 (by rw [hex] at b; exact b))), Option.bind_some]) (Ev.neg (by simp) (Ev.step (fun k => by rw [rotate_Number.j0]) (Ev.pos rfl (Ev.now _))))
set_option maxHeartbeats 4000000 in
/-- Both numbers of a name are the same. -/
theorem num_ev (s : ByteArray) (hs : s.size < 9223372036854775807) : ∃ r, Ev (fun k => rotate_Number.f k s) r ∧ Ev (fun k => kauditref26_Number.f k s) r := by
  have hf : ∀ k, rotate_Number.f k s = (strings_CutSuffix.f s (⟨#[46, 122]⟩ : ByteArray)).bind fun bt139 => numT k bt139.1 bt139.2 := fun k => by rw [rotate_Number.f]; rfl
  have hz : (⟨#[46, 122]⟩ : ByteArray).size = 2 := rfl
  by_cases h8 : s.size = 8
  · obtain ⟨b0, b1, b2, b3, b4, b5, b6, b7, rfl⟩ := eight h8
    have href : Ev (fun k => kauditref26_Number.f k (⟨#[b0, b1, b2, b3, b4, b5, b6, b7]⟩ : ByteArray)) (core b0 b1 b2 b3 b4 b5 b6 b7 false) := by
      refine Ev.congr (fun k => by rw [kauditref26_Number.f]) (Ev.neg (by simp [ByteArray.size]) (Ev.step (fun k => by rw [kauditref26_Number.j0]) (Ev.neg (by simp) (Ev.step (fun k => by rw [kauditref26_Number.j1]) (Ev.pos (by rfl) (ref_core b0 b1 b2 b3 b4 b5 b6 b7 false))))))
    have hex : ((⟨#[b0, b1, b2, b3, b4, b5, b6, b7]⟩ : ByteArray).extract ((⟨#[b0, b1, b2, b3, b4, b5, b6, b7]⟩ : ByteArray).size - (⟨#[46, 122]⟩ : ByteArray).size) (⟨#[b0, b1, b2, b3, b4, b5, b6, b7]⟩ : ByteArray).size) = (⟨#[b6, b7]⟩ : ByteArray) := rfl
    have hi : (⟨#[b6, b7]⟩ : ByteArray).toList = (⟨#[46, 122]⟩ : ByteArray).toList ↔ b6 = 46 ∧ b7 = 122 := by simp [ByteArray.toList_eq]
    refine ⟨_, ?_, href⟩
    by_cases hp : b6 = 46 ∧ b7 = 122
    · refine Ev.congr (fun k => by rw [hf, suf_yes hs (by simp [ByteArray.size]) (by rw [hex]; exact hi.2 hp), Option.bind_some]) ?_
      rw [show core b0 b1 b2 b3 b4 b5 b6 b7 false = (0, false, false) from if_neg (fun c => by have := isD_iff.1 c.2.1.2.2.1; rw [hp.1] at this; simp at this)]
      exact numT_bad true (by simp [ByteArray.size])
    · exact Ev.congr (fun k => by rw [hf, suf_no hs (fun _ b => hp (hi.1 (by rw [hex] at b; exact b))), Option.bind_some]) (numT_core b0 b1 b2 b3 b4 b5 b6 b7 false)
  · by_cases h10 : s.size = 10
    · obtain ⟨b0, b1, b2, b3, b4, b5, b6, b7, b8, b9, rfl⟩ := ten h10
      have hex : ((⟨#[b0, b1, b2, b3, b4, b5, b6, b7, b8, b9]⟩ : ByteArray).extract ((⟨#[b0, b1, b2, b3, b4, b5, b6, b7, b8, b9]⟩ : ByteArray).size - (⟨#[46, 122]⟩ : ByteArray).size) (⟨#[b0, b1, b2, b3, b4, b5, b6, b7, b8, b9]⟩ : ByteArray).size) = (⟨#[b8, b9]⟩ : ByteArray) := rfl
      have hex2 : ((⟨#[b0, b1, b2, b3, b4, b5, b6, b7, b8, b9]⟩ : ByteArray).extract 8 (⟨#[b0, b1, b2, b3, b4, b5, b6, b7, b8, b9]⟩ : ByteArray).size) = (⟨#[b8, b9]⟩ : ByteArray) := rfl
      have hex3 : ((⟨#[b0, b1, b2, b3, b4, b5, b6, b7, b8, b9]⟩ : ByteArray).extract 0 8) = (⟨#[b0, b1, b2, b3, b4, b5, b6, b7]⟩ : ByteArray) := rfl
      have hex4 : ((⟨#[b0, b1, b2, b3, b4, b5, b6, b7, b8, b9]⟩ : ByteArray).extract 0 ((⟨#[b0, b1, b2, b3, b4, b5, b6, b7, b8, b9]⟩ : ByteArray).size - (⟨#[46, 122]⟩ : ByteArray).size)) = (⟨#[b0, b1, b2, b3, b4, b5, b6, b7]⟩ : ByteArray) := rfl
      have hi : (⟨#[b8, b9]⟩ : ByteArray).toList = (⟨#[46, 122]⟩ : ByteArray).toList ↔ b8 = 46 ∧ b9 = 122 := by simp [ByteArray.toList_eq]
      have hi2 : (⟨#[b8, b9]⟩ : ByteArray).toList = [46, 122] ↔ b8 = 46 ∧ b9 = 122 := by simp [ByteArray.toList_eq]
      by_cases hp : b8 = 46 ∧ b9 = 122
      · refine ⟨core b0 b1 b2 b3 b4 b5 b6 b7 true, ?_, ?_⟩
        rotate_left
        · refine Ev.congr (fun k => by rw [kauditref26_Number.f]) (Ev.pos (by rfl) (Ev.pos (by simp [ByteArray.size]) (Ev.step (fun k => by rw [kauditref26_Number.j0]) (Ev.pos ?_ (Ev.pos (by decide) (Ev.pos (by simp [ByteArray.size]) ?_))))))
          · rw [hex2]
            simpa using hi2.2 hp
          · rw [hex3]
            exact Ev.step (fun k => by rw [kauditref26_Number.j1]) (Ev.pos (by rfl) (ref_core b0 b1 b2 b3 b4 b5 b6 b7 true))
        · refine Ev.congr (fun k => by rw [hf, suf_yes hs (by simp [ByteArray.size]) (by rw [hex]; exact hi.2 hp), Option.bind_some]) ?_
          rw [hex4]
          exact numT_core b0 b1 b2 b3 b4 b5 b6 b7 true
      · refine ⟨(0, false, false), ?_, ?_⟩
        · exact Ev.congr (fun k => by rw [hf, suf_no hs (fun _ b => hp (hi.1 (by rw [hex] at b; exact b))), Option.bind_some]) (numT_bad false (by simp [ByteArray.size]))
        · refine Ev.congr (fun k => by rw [kauditref26_Number.f]) (Ev.pos (by rfl) (Ev.pos (by simp [ByteArray.size]) (Ev.step (fun k => by rw [kauditref26_Number.j0]) (Ev.neg ?_ (Ev.step (fun k => by rw [kauditref26_Number.j1]) (Ev.neg (by simp [ByteArray.size]) (Ev.now _)))))))
          rw [hex2]
          simpa using fun c => hp (hi2.1 c)
    · refine ⟨(0, false, false), ?_, ?_⟩
      · by_cases hp : 2 ≤ s.size ∧ (s.extract (s.size - (⟨#[46, 122]⟩ : ByteArray).size) s.size).toList = (⟨#[46, 122]⟩ : ByteArray).toList
        · refine Ev.congr (fun k => by rw [hf, suf_yes hs (by rw [hz]; exact hp.1) hp.2, Option.bind_some]) (numT_bad true ?_)
          simp only [ByteArray.size_extract, hz]
          omega
        · exact Ev.congr (fun k => by rw [hf, suf_no hs (fun a b => hp ⟨by rw [hz] at a; exact a, b⟩), Option.bind_some]) (numT_bad false h8)
      · exact Ev.congr (fun k => by rw [kauditref26_Number.f]) (Ev.neg (by omega) (Ev.step (fun k => by rw [kauditref26_Number.j0]) (Ev.neg (by simp) (Ev.step (fun k => by rw [kauditref26_Number.j1]) (Ev.neg (by omega) (Ev.now _))))))
end Go.Proofs.YtadjaakmpjhdhaaDoor.Q
