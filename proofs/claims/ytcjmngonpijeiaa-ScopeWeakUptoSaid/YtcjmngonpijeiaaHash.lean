/- The hash functions of the sieve and of its reference: what each returns. -/
import Derived.Test.YtcjmngonpijeiaaChecked
import Derived.Test.YtcjmngonpijeiaaPlain
import Derived.WalkKit
import Derived.Lib.Hide
import Derived.Laws.IdiomStrings
namespace Go.Proofs.Ytcjmngonpijeiaa
set_option maxRecDepth 100000
open Go.RowKit Pl

set_option maxHeartbeats 400000 in
theorem hash_any (s : ByteArray) (w : World) (hs : s.size ≤ maxLen) :
    Calls Try.prog 43 #[.string s] w fun e w' => e = .returned (.int .u32 (hmore 5381 s.data.toList)) ∧ w = w' := by
  unfold maxLen at hs
  go_enter Try.func43, Try.ntmps43
  go_wp2
  go_loop [3, 7] (fun h i => ∃ k : Nat, k ≤ s.size ∧ i = .int .i64 k ∧ h = .int .u32 (hmore 5381 (s.data.toList.take k))) (fun _ i => s.size - (intOf i).toNat)
  case atStart => exact ⟨0, Nat.zero_le _, rfl, rfl⟩
  case round =>
    obtain ⟨k, hk, rfl, rfl⟩ := hrel
    have hb := hmore_bd 5381 (s.data.toList.take k) (by omega) (by omega)
    by_cases hlt : k < s.size
    · have H : Hid (hmore 5381 (s.data.toList.take (k + 1)) = _) := hmore_take 5381 s k hlt
      go_wp2
      go_round
      case rel => exact ⟨k + 1, by omega, by go_num, by rw [H.out]; unfold hstep; go_num⟩
      case measure => simp [intOf]; omega
    · go_wp2
      go_ret
      exact ⟨ret_int (by rw [List.take_of_length_le (by simp; omega)]), rfl⟩

set_option maxHeartbeats 400000 in
theorem refMore_any (h : Int) (s : ByteArray) (w : World) (h0 : 0 ≤ h) (h1 : h < 4294967296) (hs : s.size ≤ maxLen) :
    Calls Try.prog 34 #[.int .u32 h, .string s] w fun e w' => e = .returned (.int .u32 (hmore h s.data.toList)) ∧ w = w' := by
  unfold maxLen at hs
  go_enter Try.func34, Try.ntmps34
  go_wp2
  go_loop [5, 6] (fun n i => ∃ k : Nat, k ≤ s.size ∧ i = .int .i64 k ∧ n = .int .u64 (hmore h (s.data.toList.take k))) (fun _ i => s.size - (intOf i).toNat)
  case atStart => exact ⟨0, Nat.zero_le _, rfl, by simp [hmore]⟩
  case round =>
    obtain ⟨k, hk, rfl, rfl⟩ := hrel
    have hb := hmore_bd h (s.data.toList.take k) h0 h1
    by_cases hlt : k < s.size
    · have H : Hid (hmore h (s.data.toList.take (k + 1)) = _) := hmore_take h s k hlt
      go_wp2
      go_round
      have hu : (s[k].toNat : Int) < 256 := by have := s[k].toNat_lt; omega
      case rel => exact ⟨k + 1, by omega, by go_num, by rw [H.out]; unfold hstep; rw [IntWalk.u64_in (s[k].toNat : Int) (by omega), IntWalk.u64_in _ (by omega), IntWalk.rem_in _ _ (by omega)]; go_num⟩
      case measure => simp [intOf]; omega
    · go_wp2
      go_ret
      have hk' : k = s.size := by omega
      subst hk'
      have ht : s.data.toList.take s.size = s.data.toList := List.take_of_length_le (by simp)
      rw [ht] at hb ⊢
      exact ⟨ret_int (by omega), rfl⟩

theorem refHash_any (s : ByteArray) (w : World) (hs : s.size ≤ maxLen) :
    Calls Try.prog 23 #[.string s] w fun e w' => e = .returned (.int .u32 (hmore 5381 s.data.toList)) ∧ w = w' := by
  go_enter Try.func23, Try.ntmps23
  go_wp2_with (go_at_call 34; refine (refMore_any _ _ _ (by omega) (by omega) hs).mono ?_; rintro e w' ⟨rfl, rfl⟩)
  go_ret
  exact ⟨rfl, rfl⟩

end Go.Proofs.Ytcjmngonpijeiaa
