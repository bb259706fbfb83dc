/- sieve.Right, sieve.marks: what each returns. -/
import Derived.Test.YtcjmngonpijeiaaChecked
import Derived.Test.YtcjmngonpijeiaaMem
import Derived.Test.YtcjmngonpijeiaaSieveP
import Derived.WalkKit
import Derived.WalkSpells
import Derived.Lib.Hide
import Derived.BigRegion
namespace Go.Proofs.Ytcjmngonpijeiaa
set_option maxRecDepth 100000
open Go.RowKit Pl
set_option linter.unusedVariables false

theorem retv {a b : Value} (h : a = b) : Ending.returned a = .returned b := by rw [h]

set_option maxHeartbeats 400000 in
theorem right_yes (A : Option Addr) (n cap : Nat) (sh : Int) (w : World) (h : rightB n sh = true) :
    Calls Try.prog 54 #[.agg #[.slice A n cap, .int .i64 sh]] w fun e w' => e = .returned (.int .i64 0) ∧ Below w.heap.size w w' := by
  have hbd := rightB_bd h
  have hx : (bits .and .i64 (n : Int) ((n : Int) - 1) != 0) = false := by rw [words_and (by omega) (by omega), (rightB_parts h).1]; rfl
  go_enter Try.func54, Try.ntmps54
  go_wp2
  go_ret
  exact ⟨rfl, (Below.refl _ _).alloc (Nat.le_refl _) _⟩

set_option maxHeartbeats 400000 in
theorem right_no (A : Option Addr) (n cap : Nat) (sh : Int) (w : World) (hn : n ≤ maxLen) (h : rightB n sh = false) :
    Calls Try.prog 54 #[.agg #[.slice A n cap, .int .i64 sh]] w fun e w' => e = .returned (.int .i64 20) ∧ Below w.heap.size w w' := by
  unfold maxLen at hn
  by_cases h1 : n < 1
  · go_enter Try.func54, Try.ntmps54
    go_wp2
    go_ret
    exact ⟨rfl, (Below.refl _ _).alloc (Nat.le_refl _) _⟩
  by_cases h2 : 64 < n
  · go_enter Try.func54, Try.ntmps54
    go_wp2
    go_ret
    exact ⟨rfl, (Below.refl _ _).alloc (Nat.le_refl _) _⟩
  cases hw : wordsB n
  · have hx : (bits .and .i64 (n : Int) ((n : Int) - 1) != 0) = true := by rw [words_and (by omega) (by omega), hw]; rfl
    clear h hw
    go_enter Try.func54, Try.ntmps54
    go_wp2
    go_ret
    exact ⟨rfl, (Below.refl _ _).alloc (Nat.le_refl _) _⟩
  · have hx : (bits .and .i64 (n : Int) ((n : Int) - 1) != 0) = false := by rw [words_and (by omega) (by omega), hw]; rfl
    have hs : sh < 1 ∨ (1 ≤ sh ∧ 31 < sh) := by
      by_cases h3 : sh < 1
      · exact .inl h3
      · refine .inr ⟨by omega, ?_⟩
        simp [rightB, hw] at h
        omega
    clear h hw
    rcases hs with hs | ⟨hs, hs'⟩
    · go_enter Try.func54, Try.ntmps54
      go_wp2
      go_ret
      exact ⟨rfl, (Below.refl _ _).alloc (Nat.le_refl _) _⟩
    · go_enter Try.func54, Try.ntmps54
      go_wp2
      go_ret
      exact ⟨rfl, (Below.refl _ _).alloc (Nat.le_refl _) _⟩


set_option maxHeartbeats 400000 in
theorem marks_any (A : Option Addr) (n cap : Nat) (sh h : Nat) (w : World) (hr : rightB n sh = true) (hh : h < 4294967296) :
    Calls Try.prog 55 #[.agg #[.slice A n cap, .int .i64 sh], .int .u32 h] w fun e w' => e = .returned (.agg #[.int .i64 ((h / 64 % n : Nat) : Int), .int .u64 ((mbits sh h : Nat) : Int)]) ∧ Below w.heap.size w w' := by
  have hbd := rightB_bd hr
  obtain ⟨k, hk6, hk⟩ := wordsB_pow (rightB_parts hr).1
  have hlt2 : h / 2 ^ sh < 4294967296 := Nat.lt_of_le_of_lt (Nat.div_le_self _ _) hh
  obtain ⟨p, hp⟩ : ∃ p, p = h % 64 := ⟨_, rfl⟩
  obtain ⟨q, hq⟩ : ∃ q, q = h / 2 ^ sh % 64 := ⟨_, rfl⟩
  have hp64 : p < 64 := by omega
  have hq64 : q < 64 := by omega
  have hP : (2 : Nat) ^ p < 2 ^ 64 := Nat.pow_lt_pow_right (by omega) hp64
  have hQ : (2 : Nat) ^ q < 2 ^ 64 := Nat.pow_lt_pow_right (by omega) hq64
  have hq0 : 0 ≤ ((h : Nat) : Int) / 2 ^ sh := by rw [show ((h : Nat) : Int) / 2 ^ sh = ((h / 2 ^ sh : Nat) : Int) by simp]; exact Int.natCast_nonneg _
  have hq1 : ((h : Nat) : Int).tmod 64 = (p : Int) := by rw [Int.tmod_eq_emod_of_nonneg (by omega)]; omega
  have hq2 : (((h : Nat) : Int) / 2 ^ sh).tmod 64 = (q : Int) := by
    rw [show ((h : Nat) : Int) / 2 ^ sh = ((h / 2 ^ sh : Nat) : Int) by simp, Int.tmod_eq_emod_of_nonneg (Int.natCast_nonneg _), hq]; rfl
  have ho : bits .or .u64 (IntKind.u64.wrap ((2 : Int) ^ p)) (IntKind.u64.wrap ((2 : Int) ^ q)) = ((mbits sh h : Nat) : Int) := by
    rw [show ((2 : Int) ^ p) = ((2 ^ p : Nat) : Int) by simp, show ((2 : Int) ^ q) = ((2 ^ q : Nat) : Int) by simp, IntWalk.u64_in _ ⟨Int.natCast_nonneg _, by omega⟩, IntWalk.u64_in _ ⟨Int.natCast_nonneg _, by omega⟩,
      bits_or_u64_nat _ _ (by omega) (by omega), hp, hq]; rfl
  have ha : bits .and .i64 ((h : Int) / 64) ((n : Int) - 1) = ((h / 64 % n : Nat) : Int) := by
    rw [show ((h : Nat) : Int) / 64 = ((h / 64 : Nat) : Int) by omega, show (n : Int) - 1 = ((n - 1 : Nat) : Int) by omega, bits_and_i64_nat _ _ (by omega) (by omega), hk, Nat.and_two_pow_sub_one_eq_mod]
  generalize mbits sh h = M at *
  generalize h / 64 % n = N at *
  clear hk hk6 hp hq hr hP hQ hlt2
  go_enter Try.func55, Try.ntmps55
  go_wp2
  go_region
  go_wp2
  exact bodyPost_ret (v := .agg #[.int .i64 N, .int .u64 M]) (by simp [results, Try.results55, go_sem]) rfl ⟨rfl, (((Below.refl _ _).alloc (Nat.le_refl _) _).alloc (by simp) _).drew⟩
end Go.Proofs.Ytcjmngonpijeiaa
