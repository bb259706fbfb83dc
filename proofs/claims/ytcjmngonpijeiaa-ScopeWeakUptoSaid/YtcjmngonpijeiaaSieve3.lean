/- The reference's small functions: Words, Right, power, has, with, shifted. -/
import Derived.Test.YtcjmngonpijeiaaSieve1
namespace Go.Proofs.Ytcjmngonpijeiaa
set_option maxRecDepth 100000
open Go.RowKit Pl
set_option linter.unusedVariables false

theorem pow_cases (n : Int) (j : Nat) (hj : j ≤ 6) (h : n = ((2 ^ j : Nat) : Int)) : wordsB n = true := by
  subst h
  have : ∀ j : Nat, j < 7 → wordsB ((2 ^ j : Nat) : Int) = true := by decide
  exact this j (by omega)

set_option maxHeartbeats 400000 in
theorem refWords_any (n : Int) (w : World) :
    Calls Try.prog 48 #[.int .i64 n] w fun e w' => e = .returned (.bool (wordsB n)) ∧ w = w' := by
  go_enter Try.func48, Try.ntmps48
  go_wp2
  go_loop [3] (fun k => ∃ j : Nat, j ≤ 7 ∧ k = .int .i64 ((2 ^ j : Nat) : Int) ∧ ∀ i, i < j → n ≠ ((2 ^ i : Nat) : Int)) (fun k => (128 - intOf k).toNat)
  case atStart => exact ⟨0, by omega, rfl, fun i hi => absurd hi (by omega)⟩
  case round =>
    obtain ⟨j, hj, rfl, hno⟩ := hrel
    have HN := Lib.hid hno
    clear hno
    by_cases h7 : j = 7
    · subst h7
      go_wp2
      go_ret
      have hno := HN.out
      refine ⟨retv ?_, rfl⟩
      have : wordsB n = false := by
        rw [Bool.eq_false_iff]
        intro hw
        rcases wordsB_cases hw with h | h | h | h | h | h | h
        · exact hno 0 (by omega) h
        · exact hno 1 (by omega) h
        · exact hno 2 (by omega) h
        · exact hno 3 (by omega) h
        · exact hno 4 (by omega) h
        · exact hno 5 (by omega) h
        · exact hno 6 (by omega) h
      rw [this]
      rfl
    · obtain ⟨P, hP⟩ : ∃ P : Nat, P = 2 ^ j := ⟨_, rfl⟩
      have hb : 1 ≤ P ∧ P ≤ 64 := by
        have : ∀ j : Nat, j < 7 → 1 ≤ 2 ^ j ∧ 2 ^ j ≤ 64 := by decide
        rw [hP]; exact this j (by omega)
      have hs : 2 ^ (j + 1) = P * 2 := by rw [hP, Nat.pow_succ]
      rw [← hP]
      have HP := Lib.hid hP
      have HS := Lib.hid hs
      clear hP hs
      by_cases he : n = (P : Int)
      · have hw := pow_cases n j (by omega) (by rw [he, HP.out])
        have hbe : ((n == (P : Int)) : Bool) = true := by simp [he]
        clear he
        go_wp2
        go_ret
        exact ⟨rfl, rfl⟩
      · have hbe : ((n == (P : Int)) : Bool) = false := by simp [he]
        go_wp2
        go_round
        case rel =>
          refine ⟨j + 1, by omega, by rw [HS.out]; go_num, fun i hi => ?_⟩
          by_cases hij : i = j
          · subst hij; rw [← HP.out]; exact he
          · exact HN.out i (by omega)
        case measure => simp [intOf]; omega

set_option maxHeartbeats 400000 in
theorem refRight_any (A : Option Addr) (n cap : Nat) (sh : Int) (w : World) (hn : n ≤ maxLen) :
    Calls Try.prog 35 #[.agg #[.slice A n cap, .int .i64 sh]] w fun e w' => e = .returned (.bool (rightB n sh)) ∧ Below w.heap.size w w' := by
  unfold maxLen at hn
  have hfin : rightB n sh = (wordsB n && decide (1 ≤ sh) && decide (sh ≤ 31)) := rfl
  rw [hfin]
  clear hfin
  generalize hW : wordsB n = W
  have HW := Lib.hid hW
  clear hW
  cases W
  · go_enter Try.func35, Try.ntmps35
    go_wp2_with (go_at_call 48; refine (refWords_any _ _).mono ?_; rintro e w1 ⟨rfl, rfl⟩; rw [HW.out])
    go_ret
    exact ⟨rfl, (Below.refl _ _).alloc (Nat.le_refl _) _⟩
  · by_cases h1 : 1 ≤ sh
    · have e1 : decide (1 ≤ sh) = true := by simpa using h1
      have E1 := Lib.hid e1
      clear e1
      go_enter Try.func35, Try.ntmps35
      go_wp2_with (go_at_call 48; refine (refWords_any _ _).mono ?_; rintro e w1 ⟨rfl, rfl⟩; rw [HW.out])
      go_ret
      exact ⟨retv (by show Value.bool (decide (sh ≤ 31)) = _; rw [E1.out]; rfl), (Below.refl _ _).alloc (Nat.le_refl _) _⟩
    · go_enter Try.func35, Try.ntmps35
      go_wp2_with (go_at_call 48; refine (refWords_any _ _).mono ?_; rintro e w1 ⟨rfl, rfl⟩; rw [HW.out])
      go_ret
      have e1 : decide (1 ≤ sh) = false := by simpa using h1
      exact ⟨retv (by show Value.bool false = _; rw [e1]; rfl), (Below.refl _ _).alloc (Nat.le_refl _) _⟩

set_option maxHeartbeats 400000 in
theorem refPower_any (n : Nat) (w : World) (hn : n < 64) :
    Calls Try.prog 49 #[.int .u32 n] w fun e w' => e = .returned (.int .u64 ((2 ^ n : Nat) : Int)) ∧ w = w' := by
  go_enter Try.func49, Try.ntmps49
  go_wp2
  go_loop [3, 4] (fun p i => ∃ k : Nat, k ≤ n ∧ i = .int .u32 k ∧ p = .int .u64 ((2 ^ k : Nat) : Int)) (fun _ i => n - (intOf i).toNat)
  case atStart => exact ⟨0, Nat.zero_le _, rfl, rfl⟩
  case round =>
    obtain ⟨k, hk, rfl, rfl⟩ := hrel
    by_cases hlt : k < n
    · have hP : 2 * 2 ^ k < 2 ^ 64 := by
        have : 2 ^ (k + 1) < 2 ^ 64 := Nat.pow_lt_pow_right (by omega) (by omega)
        rw [Nat.pow_succ] at this; omega
      have HS := Lib.hid (Nat.pow_succ 2 k)
      generalize 2 ^ k = P at *
      go_wp2
      go_round
      case rel => exact ⟨k + 1, by omega, by go_num, by rw [HS.out]; go_num⟩
      case measure => simp [intOf]; omega
    · go_wp2
      go_ret
      exact ⟨retv (by rw [show k = n by omega]; rfl), rfl⟩

set_option maxHeartbeats 400000 in
theorem refShifted_any (h n : Nat) (w : World) (hh : h < 4294967296) (hn : n ≤ 31) :
    Calls Try.prog 37 #[.int .u32 h, .int .i64 n] w fun e w' => e = .returned (.int .u32 ((h / 2 ^ n : Nat) : Int)) ∧ w = w' := by
  go_enter Try.func37, Try.ntmps37
  go_wp2
  go_loop [0, 5] (fun p i => ∃ k : Nat, k ≤ n ∧ i = .int .i64 k ∧ p = .int .u32 ((h / 2 ^ k : Nat) : Int)) (fun _ i => n - (intOf i).toNat)
  case atStart => exact ⟨0, Nat.zero_le _, rfl, by simp⟩
  case round =>
    obtain ⟨k, hk, rfl, rfl⟩ := hrel
    by_cases hlt : k < n
    · have HS : Hid (h / 2 ^ (k + 1) = h / 2 ^ k / 2) := by show _ = _; rw [Nat.pow_succ, Nat.div_div_eq_div_mul]
      have hle : h / 2 ^ k ≤ h := Nat.div_le_self _ _
      generalize h / 2 ^ k = P at *
      go_wp2
      go_round
      case rel => exact ⟨k + 1, by omega, by go_num, by rw [HS.out]; go_num⟩
      case measure => simp [intOf]; omega
    · go_wp2
      go_ret
      exact ⟨retv (by rw [show k = n by omega]; rfl), rfl⟩

def hasB (x p : Nat) : Bool := x / 2 ^ p % 2 == 1

set_option maxHeartbeats 400000 in
theorem refHas_any (x p : Nat) (w : World) (hx : x < 18446744073709551616) (hp : p < 64) :
    Calls Try.prog 36 #[.int .u64 x, .int .u32 p] w fun e w' => e = .returned (.bool (hasB x p)) ∧ w = w' := by
  have hP : 1 ≤ 2 ^ p ∧ 2 ^ p < 2 ^ 64 := ⟨Nat.one_le_two_pow, Nat.pow_lt_pow_right (by omega) hp⟩
  have hfin : hasB x p = (((x / 2 ^ p : Nat) : Int) % 2 == 1) := by
    unfold hasB
    rw [Bool.eq_iff_iff, beq_iff_eq, beq_iff_eq]; omega
  rw [hfin]
  have hle : x / 2 ^ p ≤ x := Nat.div_le_self _ _
  have HC := Lib.hid (refPower_any p)
  have hq : ((x : Int) / ((2 ^ p : Nat) : Int)) = ((x / 2 ^ p : Nat) : Int) := rfl
  clear hfin
  generalize x / 2 ^ p = Y at *
  generalize 2 ^ p = P at *
  go_enter Try.func36, Try.ntmps36
  go_wp2_with (go_at_call 49; refine (HC.out _ hp).mono ?_; rintro e w1 ⟨rfl, rfl⟩)
  go_ret
  exact ⟨rfl, rfl⟩

theorem or_add (x p : Nat) (h : x.testBit p = false) : x ||| 2 ^ p = x + 2 ^ p := by
  have e1 : x = 2 ^ p * (x / 2 ^ p) + x % 2 ^ p := (Nat.div_add_mod x (2 ^ p)).symm
  have hev : x / 2 ^ p % 2 = 0 := by
    rw [Nat.testBit_eq_decide_div_mod_eq] at h
    simp at h; omega
  obtain ⟨y, hy⟩ : ∃ y, x / 2 ^ p = 2 * y := ⟨x / 2 ^ p / 2, by omega⟩
  have hlt : x % 2 ^ p < 2 ^ p := Nat.mod_lt _ (Nat.two_pow_pos p)
  have hlt' : x % 2 ^ p < 2 ^ (p + 1) := by rw [Nat.pow_succ]; omega
  have hlt2 : 2 ^ p + x % 2 ^ p < 2 ^ (p + 1) := by rw [Nat.pow_succ]; omega
  have e2 : x = 2 ^ (p + 1) * y + x % 2 ^ p := by
    rw [hy] at e1
    rw [Nat.pow_succ, Nat.mul_assoc]; exact e1
  have e3 : x + 2 ^ p = 2 ^ (p + 1) * y + (2 ^ p * 1 + x % 2 ^ p) := by omega
  rw [e3, Nat.two_pow_add_eq_or_of_lt (by omega), Nat.two_pow_add_eq_or_of_lt hlt]
  have e4 : x = 2 ^ (p + 1) * y ||| x % 2 ^ p := by rw [← Nat.two_pow_add_eq_or_of_lt hlt']; exact e2
  have e5 : x ||| 2 ^ p = (2 ^ (p + 1) * y ||| x % 2 ^ p) ||| 2 ^ p := by rw [← e4]
  rw [e5, Nat.or_assoc, Nat.or_comm (x % 2 ^ p), Nat.mul_one]

theorem with_eq (x p : Nat) : (if hasB x p = true then x else x + 2 ^ p) = x ||| 2 ^ p := by
  have ht : hasB x p = x.testBit p := by
    unfold hasB
    rw [Nat.testBit_eq_decide_div_mod_eq]
    rw [Bool.eq_iff_iff]; simp
  rw [ht]
  cases hb : x.testBit p
  · simp only [Bool.false_eq_true, if_false]
    exact (or_add x p hb).symm
  · simp only [if_true]
    apply Nat.eq_of_testBit_eq
    intro i
    rw [Nat.testBit_or, Nat.testBit_two_pow]
    by_cases hi : p = i
    · subst hi; rw [hb]; simp
    · simp [hi]

set_option maxHeartbeats 400000 in
theorem refWith_any (x p : Nat) (w : World) (hx : x < 18446744073709551616) (hp : p < 64) :
    Calls Try.prog 56 #[.int .u64 x, .int .u32 p] w fun e w' => e = .returned (.int .u64 ((x ||| 2 ^ p : Nat) : Int)) ∧ w = w' := by
  have hP : 1 ≤ 2 ^ p ∧ 2 ^ p < 2 ^ 64 := ⟨Nat.one_le_two_pow, Nat.pow_lt_pow_right (by omega) hp⟩
  have hO : x ||| 2 ^ p < 2 ^ 64 := Nat.or_lt_two_pow (by omega) (by omega)
  have hwe := with_eq x p
  have HC := Lib.hid (refPower_any p)
  have HH := Lib.hid (refHas_any x p)
  generalize 2 ^ p = P at *
  cases hb : hasB x p
  · rw [hb] at hwe
    simp only [Bool.false_eq_true, if_false] at hwe
    rw [← hwe]
    rw [← hwe] at hO
    rw [hb] at HH
    clear hwe hb
    go_enter Try.func56, Try.ntmps56
    go_wp2_with (first | (go_at_call 49; refine (HC.out _ hp).mono ?_; rintro e w1 ⟨rfl, rfl⟩) | (go_at_call 36; refine (HH.out _ hx hp).mono ?_; rintro e w1 ⟨rfl, rfl⟩))
    go_ret
    exact ⟨retv (by rfl), rfl⟩
  · rw [hb] at hwe
    simp only [if_true] at hwe
    rw [← hwe]
    rw [hb] at HH
    clear hwe hb hO
    go_enter Try.func56, Try.ntmps56
    go_wp2_with (first | (go_at_call 49; refine (HC.out _ hp).mono ?_; rintro e w1 ⟨rfl, rfl⟩) | (go_at_call 36; refine (HH.out _ hx hp).mono ?_; rintro e w1 ⟨rfl, rfl⟩))
    go_ret
    exact ⟨rfl, rfl⟩

end Go.Proofs.Ytcjmngonpijeiaa
