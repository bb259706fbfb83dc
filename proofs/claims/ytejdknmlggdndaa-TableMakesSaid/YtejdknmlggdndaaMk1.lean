/- table.Count, table.wide, table.hashes. -/
import Derived.Test.YtejdknmlggdndaaMkP
import Derived.Test.YtejdknmlggdndaaFind
namespace Go.Proofs.Ytejdknmlggdndaa
open Go.RowKit Pl
set_option linter.unusedVariables false

theorem count_any (n : Int) (w : World) (h0 : -9223372036854775808 ≤ n) (h1 : n ≤ 4611686018427387904) :
    Calls Try.prog 21 #[.int .i64 n] w fun e w' => e = .returned (.int .i64 (cntN n.toNat : Nat)) ∧ w = w' := by
  by_cases h4 : n ≤ 4
  · have HC : Hid (cntN n.toNat = 1) := Lib.hid (by unfold cntN; rw [if_pos (by omega)])
    by_cases ha : 1 ≤ n
    · go_enter Try.func21, Try.ntmps21
      go_wp2
      go_ret
      exact ⟨retv (by show Value.int .i64 1 = _; rw [HC.out]; rfl), rfl⟩
    · by_cases hb : -3 ≤ n
      · go_enter Try.func21, Try.ntmps21
        go_wp2
        go_ret
        exact ⟨retv (by show Value.int .i64 1 = _; rw [HC.out]; rfl), rfl⟩
      · have hd : (n + 4 - 1).tdiv 4 ≤ 1 := by
          have e : (n + 4 - 1).tdiv 4 = -((-(n + 4 - 1)).tdiv 4) := by rw [Int.neg_tdiv, Int.neg_neg]
          rw [e, Int.tdiv_eq_ediv_of_nonneg (by omega)]
          omega
        go_enter Try.func21, Try.ntmps21
        go_wp2
        go_ret
        exact ⟨retv (by show Value.int .i64 1 = _; rw [HC.out]; rfl), rfl⟩
  · obtain ⟨m, rfl⟩ := Int.eq_ofNat_of_zero_le (by omega : 0 ≤ n)
    have HC : Hid (cntN (m : Int).toNat = (m + 3) / 4) := Lib.hid (by unfold cntN; rw [Int.toNat_natCast, if_neg (by omega)])
    go_enter Try.func21, Try.ntmps21
    go_wp2
    go_ret
    exact ⟨retv (by show Value.int .i64 (((m : Int) + 4 - 1) / 4) = _; rw [show cntN m = (m + 3) / 4 from HC.out]; congr 1; omega), rfl⟩

set_option maxHeartbeats 800000 in
theorem wide_any (n : Nat) (w : World) (h : n ≤ 9223372036854775807) :
    Calls Try.prog 31 #[.int .i64 n] w fun e w' => e = .returned (.int .i64 (wideN n : Nat)) ∧ w = w' := by
  have h1 : n ≤ 8 → wideN n = 1 := fun h => by unfold wideN; rw [if_pos h]
  go_enter Try.func31, Try.ntmps31
  go_wp2_with fail
  go_loop [3] (fun x => ∃ j : Nat, j ≤ 6 ∧ x = .int .i64 ((2 ^ j : Nat) : Int) ∧ ∀ i, i < j → 8 * 2 ^ i < n) (fun x => (64 - intOf x).toNat)
  case atStart => exact ⟨0, by omega, rfl, fun i hi => by omega⟩
  case round =>
    obtain ⟨j, hj, rfl, hjn⟩ := hrel
    have hp : j = 0 ∨ j = 1 ∨ j = 2 ∨ j = 3 ∨ j = 4 ∨ j = 5 ∨ j = 6 := by omega
    rcases hp with rfl | rfl | rfl | rfl | rfl | rfl | rfl
    · clear hjn
      rw [show (((2 ^ 0 : Nat) : Nat) : Int) = 1 from rfl]
      by_cases hc : 8 < n
      · go_wp2
        go_round
        case rel => exact ⟨1, by omega, rfl, fun i hi => by
          have h2 : 2 ^ i ≤ 2 ^ 0 := Nat.pow_le_pow_right (by omega) (by omega)
          rw [show (2 : Nat) ^ 0 = 1 from rfl] at h2
          omega⟩
        case measure => simp [intOf]
      · have HC : Hid (wideN n = 1) := Lib.hid (by unfold wideN; rw [if_pos (by omega)])
        go_wp2
        go_ret
        exact ⟨retv (by show Value.int .i64 1 = _; rw [HC.out]; rfl), rfl⟩
    · have hlo := hjn 0 (by omega)
      rw [show 8 * 2 ^ 0 = 8 from rfl] at hlo
      clear hjn
      rw [show (((2 ^ 1 : Nat) : Nat) : Int) = 2 from rfl]
      by_cases hc : 16 < n
      · go_wp2
        go_round
        case rel => exact ⟨2, by omega, rfl, fun i hi => by
          have h2 : 2 ^ i ≤ 2 ^ 1 := Nat.pow_le_pow_right (by omega) (by omega)
          rw [show (2 : Nat) ^ 1 = 2 from rfl] at h2
          omega⟩
        case measure => simp [intOf]
      · have HC : Hid (wideN n = 2) := Lib.hid (by unfold wideN; rw [if_neg (by omega)]; rw [if_pos (by omega)])
        go_wp2
        go_ret
        exact ⟨retv (by show Value.int .i64 2 = _; rw [HC.out]; rfl), rfl⟩
    · have hlo := hjn 1 (by omega)
      rw [show 8 * 2 ^ 1 = 16 from rfl] at hlo
      clear hjn
      rw [show (((2 ^ 2 : Nat) : Nat) : Int) = 4 from rfl]
      by_cases hc : 32 < n
      · go_wp2
        go_round
        case rel => exact ⟨3, by omega, rfl, fun i hi => by
          have h2 : 2 ^ i ≤ 2 ^ 2 := Nat.pow_le_pow_right (by omega) (by omega)
          rw [show (2 : Nat) ^ 2 = 4 from rfl] at h2
          omega⟩
        case measure => simp [intOf]
      · have HC : Hid (wideN n = 4) := Lib.hid (by unfold wideN; rw [if_neg (by omega)]; rw [if_neg (by omega)]; rw [if_pos (by omega)])
        go_wp2
        go_ret
        exact ⟨retv (by show Value.int .i64 4 = _; rw [HC.out]; rfl), rfl⟩
    · have hlo := hjn 2 (by omega)
      rw [show 8 * 2 ^ 2 = 32 from rfl] at hlo
      clear hjn
      rw [show (((2 ^ 3 : Nat) : Nat) : Int) = 8 from rfl]
      by_cases hc : 64 < n
      · go_wp2
        go_round
        case rel => exact ⟨4, by omega, rfl, fun i hi => by
          have h2 : 2 ^ i ≤ 2 ^ 3 := Nat.pow_le_pow_right (by omega) (by omega)
          rw [show (2 : Nat) ^ 3 = 8 from rfl] at h2
          omega⟩
        case measure => simp [intOf]
      · have HC : Hid (wideN n = 8) := Lib.hid (by unfold wideN; rw [if_neg (by omega)]; rw [if_neg (by omega)]; rw [if_neg (by omega)]; rw [if_pos (by omega)])
        go_wp2
        go_ret
        exact ⟨retv (by show Value.int .i64 8 = _; rw [HC.out]; rfl), rfl⟩
    · have hlo := hjn 3 (by omega)
      rw [show 8 * 2 ^ 3 = 64 from rfl] at hlo
      clear hjn
      rw [show (((2 ^ 4 : Nat) : Nat) : Int) = 16 from rfl]
      by_cases hc : 128 < n
      · go_wp2
        go_round
        case rel => exact ⟨5, by omega, rfl, fun i hi => by
          have h2 : 2 ^ i ≤ 2 ^ 4 := Nat.pow_le_pow_right (by omega) (by omega)
          rw [show (2 : Nat) ^ 4 = 16 from rfl] at h2
          omega⟩
        case measure => simp [intOf]
      · have HC : Hid (wideN n = 16) := Lib.hid (by unfold wideN; rw [if_neg (by omega)]; rw [if_neg (by omega)]; rw [if_neg (by omega)]; rw [if_neg (by omega)]; rw [if_pos (by omega)])
        go_wp2
        go_ret
        exact ⟨retv (by show Value.int .i64 16 = _; rw [HC.out]; rfl), rfl⟩
    · have hlo := hjn 4 (by omega)
      rw [show 8 * 2 ^ 4 = 128 from rfl] at hlo
      clear hjn
      rw [show (((2 ^ 5 : Nat) : Nat) : Int) = 32 from rfl]
      by_cases hc : 256 < n
      · go_wp2
        go_round
        case rel => exact ⟨6, by omega, rfl, fun i hi => by
          have h2 : 2 ^ i ≤ 2 ^ 5 := Nat.pow_le_pow_right (by omega) (by omega)
          rw [show (2 : Nat) ^ 5 = 32 from rfl] at h2
          omega⟩
        case measure => simp [intOf]
      · have HC : Hid (wideN n = 32) := Lib.hid (by unfold wideN; rw [if_neg (by omega)]; rw [if_neg (by omega)]; rw [if_neg (by omega)]; rw [if_neg (by omega)]; rw [if_neg (by omega)]; rw [if_pos (by omega)])
        go_wp2
        go_ret
        exact ⟨retv (by show Value.int .i64 32 = _; rw [HC.out]; rfl), rfl⟩
    · have hlo := hjn 5 (by omega)
      rw [show 8 * 2 ^ 5 = 256 from rfl] at hlo
      clear hjn
      rw [show (((2 ^ 6 : Nat) : Nat) : Int) = 64 from rfl]
      have HC : Hid (wideN n = 64) := Lib.hid (by unfold wideN; rw [if_neg (by omega)]; rw [if_neg (by omega)]; rw [if_neg (by omega)]; rw [if_neg (by omega)]; rw [if_neg (by omega)]; rw [if_neg (by omega)])
      go_wp2
      go_ret
      exact ⟨retv (by show Value.int .i64 64 = _; rw [HC.out]; rfl), rfl⟩

end Go.Proofs.Ytejdknmlggdndaa
