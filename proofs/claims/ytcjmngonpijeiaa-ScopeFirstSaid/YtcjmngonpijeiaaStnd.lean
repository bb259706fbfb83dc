/- clevisref08.stands: how often a place stands in a bucket. -/
import Derived.Test.YtcjmngonpijeiaaFind
namespace Go.Proofs.Ytcjmngonpijeiaa
set_option maxRecDepth 100000
open Go.RowKit Pl
set_option linter.unusedVariables false

theorem count_step (is : List Int) (x : Int) {k : Nat} (h : k < is.length) : (is.take (k + 1)).count x = (is.take k).count x + if is.getD k 0 = x then 1 else 0 := by
  rw [List.take_succ_eq_append_getElem h, List.count_append, List.getD_eq_getElem?_getD, List.getElem?_eq_getElem h]
  simp only [Option.getD_some, List.count_singleton, beq_iff_eq]

set_option maxHeartbeats 1600000 in
theorem stands_any (A : Option Addr) (c : Nat) (is : List Int) (x : Int) (w : World) (hR : Rd w A (ints is)) (hl : is.length * 8 ≤ 140737488351232) :
    Calls Try.prog 47 #[.slice A is.length c, .int .i64 x] w fun e w' => e = .returned (.int .i64 (is.count x : Nat)) ∧ w = w' := by
  have HR := Lib.hid hR
  clear hR
  go_enter Try.func47, Try.ntmps47
  go_wp2_with fail
  go_loopw [5, 6] (fun n i wr => ∃ k : Nat, k ≤ is.length ∧ i = .int .i64 k ∧ n = .int .i64 ((is.take k).count x : Nat) ∧ w = wr) (fun _ i _ => is.length - (intOf i).toNat)
  case atStart => exact ⟨0, Nat.zero_le _, rfl, rfl, rfl⟩
  case round =>
    obtain ⟨k, hk, rfl, rfl, rfl⟩ := hrel
    have hc : (is.take k).count x ≤ k := by
      have := List.count_le_length (a := x) (l := is.take k)
      rw [List.length_take] at this
      omega
    by_cases hlt : k < is.length
    · obtain ⟨ib, io, rfl, hib, hic⟩ := HR.out.int hlt
      have HC := Lib.hid (count_step is x hlt)
      generalize is.getD k 0 = y at *
      generalize (is.take k).count x = n at *
      by_cases he : y = x
      · have hbe : (y == x) = true := by rw [he]; simp
        have HC1 := Lib.hid (HC.out.trans (by rw [if_pos he] : _ = n + 1))
        clear he
        go_wp2
        go_roundw
        case rel => exact ⟨k + 1, by omega, by go_num, by rw [HC1.out]; go_num, trivial⟩
        case measure => simp [intOf]; omega
      · have hbe : (y == x) = false := beq_eq_false_iff_ne.mpr he
        have HC1 := Lib.hid (HC.out.trans (by rw [if_neg he] : _ = n + 0))
        clear he
        go_wp2
        go_roundw
        case rel => exact ⟨k + 1, by omega, by go_num, by rw [HC1.out]; rfl, trivial⟩
        case measure => simp [intOf]; omega
    · have hke : k = is.length := by omega
      have HT : Hid (is.take k = is) := Lib.hid (by rw [hke, List.take_length])
      clear hke
      rw [HT.out]
      go_wp2
      go_ret
      exact ⟨rfl, rfl⟩

end Go.Proofs.Ytcjmngonpijeiaa
