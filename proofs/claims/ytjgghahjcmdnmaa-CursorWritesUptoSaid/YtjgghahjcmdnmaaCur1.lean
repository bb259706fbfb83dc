/- The small functions of the cursor: sized, fits, fail, sound, NewWriter. -/
import Derived.Test.YtjgghahjcmdnmaaCurW
import Derived.Lib.Hide
namespace Go.Proofs.Ytjgghahjcmdnmaa
open Go.RowKit Pl
set_option linter.unusedVariables false

theorem retv {a b : Value} (h : a = b) : Ending.returned a = .returned b := by rw [h]

set_option maxHeartbeats 400000 in
theorem sized_any (size : Int) (w : World) : Calls Try.prog 35 #[.int .i64 size] w fun e w' => e = .returned (.bool (sizedB size)) ∧ w = w' := by
  cases h : sizedB size
  · obtain ⟨h1, h2, h4, h8⟩ := sizedB_not h
    have e1 : (size == 1) = false := by simp [h1]
    have e2 : (size == 2) = false := by simp [h2]
    have e4 : (size == 4) = false := by simp [h4]
    have e8 : (size == 8) = false := by simp [h8]
    clear h h1 h2 h4 h8
    go_enter Try.func35, Try.ntmps35
    go_wp2
    go_ret
    exact ⟨rfl, rfl⟩
  · rcases sizedB_cases h with rfl | rfl | rfl | rfl
    all_goals
      clear h
      go_enter Try.func35, Try.ntmps35
      go_wp2
      go_ret
      exact ⟨rfl, rfl⟩

theorem fits_sh (n m : Int) (hm : 0 < m) (h0 : 0 ≤ n) : (n / m == 0) = decide (n < m) := by
  rw [Bool.eq_iff_iff, beq_iff_eq, decide_eq_true_iff]
  constructor
  · intro h
    rcases Int.lt_or_le n m with h1 | h1
    · exact h1
    · exfalso
      have : 1 ≤ n / m := (Int.le_ediv_iff_mul_le hm).2 (by omega)
      omega
  · intro h
    exact Int.ediv_eq_zero_of_lt h0 h

set_option maxHeartbeats 400000 in
theorem fits_any (n size : Int) (hs : sizedB size = true) (w : World) : Calls Try.prog 38 #[.int .i64 n, .int .i64 size] w fun e w' => e = .returned (.bool (fitsB n size)) ∧ w = w' := by
  rcases sizedB_cases hs with rfl | rfl | rfl | rfl
  · clear hs
    by_cases h0 : 0 ≤ n
    · have H1 := Lib.hid (fits_sh n 256 (by omega) h0)
      have hf : fitsB n 1 = decide (n < 256) := by simp [fitsB, h0]
      rw [hf]
      clear hf
      go_enter Try.func38, Try.ntmps38
      go_wp2
      go_ret
      exact ⟨retv (by show Value.bool (n / 256 == 0) = _; rw [H1.out]), rfl⟩
    · have hf : fitsB n 1 = false := by simp [fitsB, h0]
      rw [hf]
      clear hf
      go_enter Try.func38, Try.ntmps38
      go_wp2
      go_ret
      exact ⟨rfl, rfl⟩
  · clear hs
    by_cases h0 : 0 ≤ n
    · have H1 := Lib.hid (fits_sh n 65536 (by omega) h0)
      have hf : fitsB n 2 = decide (n < 65536) := by simp [fitsB, h0]
      rw [hf]
      clear hf
      go_enter Try.func38, Try.ntmps38
      go_wp2
      go_ret
      exact ⟨retv (by show Value.bool (n / 65536 == 0) = _; rw [H1.out]), rfl⟩
    · have hf : fitsB n 2 = false := by simp [fitsB, h0]
      rw [hf]
      clear hf
      go_enter Try.func38, Try.ntmps38
      go_wp2
      go_ret
      exact ⟨rfl, rfl⟩
  · clear hs
    by_cases h0 : 0 ≤ n
    · have H1 := Lib.hid (fits_sh n 4294967296 (by omega) h0)
      have hf : fitsB n 4 = decide (n < 4294967296) := by simp [fitsB, h0]
      rw [hf]
      clear hf
      go_enter Try.func38, Try.ntmps38
      go_wp2
      go_ret
      exact ⟨retv (by show Value.bool (n / 4294967296 == 0) = _; rw [H1.out]), rfl⟩
    · have hf : fitsB n 4 = false := by simp [fitsB, h0]
      rw [hf]
      clear hf
      go_enter Try.func38, Try.ntmps38
      go_wp2
      go_ret
      exact ⟨rfl, rfl⟩
  · have hf : fitsB n 8 = true := by simp [fitsB]
    rw [hf]
    clear hf hs
    go_enter Try.func38, Try.ntmps38
    go_wp2
    go_ret
    exact ⟨rfl, rfl⟩

set_option maxHeartbeats 400000 in
theorem fail_any (p t : Nat) (st : WS) (v : Value) (e : Int) (w : World) (h : Wst w p st v) :
    Calls Try.prog 36 #[.pointer (some ⟨p, 0, none⟩), .int .i64 e] w fun r w' => r = .returned (.tuple #[]) ∧ Wto p w v w' (wfail st e) v := by
  obtain ⟨E, bs⟩ := st
  have k0 := h.blk
  simp only at k0
  have c0 : w.cell? ⟨p, 0, none⟩ = some (.int .i64 E) := k0.cell 0 rfl
  have f0 := k0.frozen 0
  have H := Lib.hid h
  clear h k0
  by_cases hE : E = 0
  · subst hE
    go_enter Try.func36, Try.ntmps36
    go_wp2
    go_end0
    exact ⟨rfl, ⟨⟨H.out.blk.set 0 _, own_farB H.out.own H.out.blk (by decide) _⟩, fun _ h => .inl h, (Chg.set w p 0 _).mono fun k hk => .inl hk⟩⟩
  · have hb : (E == 0) = false := by simp [hE]
    have hw : wfail (E, bs) e = (E, bs) := by simp [wfail, hE]
    have HW := Lib.hid hw
    clear hE hw
    go_enter Try.func36, Try.ntmps36
    go_wp2
    go_end0
    exact ⟨rfl, by rw [HW.out]; exact Wto.refl H.out⟩

set_option maxHeartbeats 400000 in
theorem sound_any (p : Nat) (E : Int) (w : World) (h : w.cell? ⟨p, 0, none⟩ = some (.int .i64 E)) :
    Calls Try.prog 37 #[.pointer (some ⟨p, 0, none⟩)] w fun r w' => r = .returned (.bool (E == 0)) ∧ w = w' := by
  go_enter Try.func37, Try.ntmps37
  go_wp2
  go_ret
  exact ⟨rfl, rfl⟩

set_option maxHeartbeats 400000 in
theorem newWriter_any (w : World) :
    Calls Try.prog 12 #[] w fun r w' => r = .returned (.pointer (some ⟨w.heap.size, 0, none⟩)) ∧ Wst w' w.heap.size (0, []) (.slice none 0 0) ∧ Ext w w' := by
  go_enter Try.func12, Try.ntmps12
  go_wp2
  go_ret
  exact ⟨rfl, ⟨Blk.new _ _ _, World.ownsRow_nil _ _ _ _⟩, Ext.alloc _ _⟩

end Go.Proofs.Ytjgghahjcmdnmaa
