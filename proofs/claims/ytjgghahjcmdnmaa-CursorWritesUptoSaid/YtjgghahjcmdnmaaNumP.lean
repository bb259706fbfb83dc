/- Plain facts: a number that is put is read as it was. -/
import Derived.Test.YtjgghahjcmdnmaaRdrP
namespace Go.Proofs.Ytjgghahjcmdnmaa.Pl

theorem emod_step (n M : Int) (hM : 0 < M) : n % (M * 256) = n % M + (n / M % 256) * M := by
  have h1 := Int.mul_ediv_add_emod n M
  have h2 := Int.mul_ediv_add_emod (n / M) 256
  have h3 := Int.emod_nonneg n (show M ≠ 0 by omega)
  have h4 := Int.emod_lt_of_pos n hM
  have h5 := Int.emod_nonneg (n / M) (show (256 : Int) ≠ 0 by omega)
  have h6 := Int.emod_lt_of_pos (n / M) (show (0 : Int) < 256 by omega)
  generalize n / M % 256 = r at *
  generalize n / M / 256 = q at *
  have hn : n = (n % M + r * M) + (M * 256) * q := by
    calc n = M * (n / M) + n % M := h1.symm
      _ = M * (256 * q + r) + n % M := by rw [h2]
      _ = (n % M + r * M) + (M * 256) * q := by rw [Int.mul_add, Int.mul_comm r M, Int.mul_assoc]; omega
  have hb : 0 ≤ r * M := Int.mul_nonneg h5 (by omega)
  have hc : r * M ≤ 255 * M := Int.mul_le_mul_of_nonneg_right (by omega) (by omega)
  calc n % (M * 256) = ((n % M + r * M) + (M * 256) * q) % (M * 256) := by rw [← hn]
    _ = (n % M + r * M) % (M * 256) := Int.add_mul_emod_self_left _ _ _
    _ = n % M + r * M := Int.emod_eq_of_lt (by omega) (by omega)

theorem leNat_digs (k : Nat) (n : Int) : (leNat (digs k n) : Int) = n % 2 ^ (8 * k) := by
  induction k with
  | zero => simp [digs, leNat]
  | succ k ih =>
    rw [digs_succ, leNat_snoc, digs_length]
    have hM : (0 : Int) < 2 ^ (8 * k) := Int.pow_pos (by omega)
    have h256 : (2 : Int) ^ (8 * (k + 1)) = 2 ^ (8 * k) * 256 := by rw [Nat.mul_succ, Int.pow_add]; rfl
    rw [h256, emod_step n _ hM, Int.natCast_add, ih, Int.natCast_mul]
    congr 2
    · unfold dig
      have h0 : 0 ≤ n / 2 ^ (8 * k) % 256 := Int.emod_nonneg _ (by omega)
      have h1 : n / 2 ^ (8 * k) % 256 < 256 := Int.emod_lt_of_pos _ (by omega)
      rw [UInt8.toNat_ofNat', Nat.mod_eq_of_lt (by omega)]
      omega

theorem i64_digs (z : Nat) (n : Int) (hs : sizedB z = true) (hf : fitsB n z = true) (hn : -9223372036854775808 ≤ n ∧ n ≤ 9223372036854775807) : i64 (leNat (digs z n)) = n := by
  unfold i64
  rw [leNat_digs, IntKind.wrap_i64]
  rcases sizedB_cases hs with h | h | h | h
  · obtain rfl : z = 1 := by omega
    simp [fitsB] at hf
    rw [show (2 : Int) ^ (8 * 1) = 256 from rfl]
    omega
  · obtain rfl : z = 2 := by omega
    simp [fitsB] at hf
    rw [show (2 : Int) ^ (8 * 2) = 65536 from rfl]
    omega
  · obtain rfl : z = 4 := by omega
    simp [fitsB] at hf
    rw [show (2 : Int) ^ (8 * 4) = 4294967296 from rfl]
    omega
  · obtain rfl : z = 8 := by omega
    rw [show (2 : Int) ^ (8 * 8) = 18446744073709551616 from rfl]
    omega

theorem rnum_digs (z : Nat) (n : Int) (r : List UInt8) (hs : sizedB z = true) (hf : fitsB n z = true) (hn : -9223372036854775808 ≤ n ∧ n ≤ 9223372036854775807) : rnum z (0, digs z n ++ r) = (n, (0, r)) := by
  have h1 : rcut (0, digs z n ++ r) z = (digs z n, (0, r)) := by
    have hl := digs_length z n
    simp [rcut, hl]
  unfold rnum
  rw [hs, Int.toNat_natCast, h1]
  simp only [if_true]
  rw [i64_digs z n hs hf hn]

end Go.Proofs.Ytjgghahjcmdnmaa.Pl
