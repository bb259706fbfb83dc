/- clevislaw08.TableCounts, and what the document counts. -/
import Derived.Test.YtcjmngonpijeiaaAw8
import Derived.Test.YtcjmngonpijeiaaMk1
namespace Go.Proofs.Ytcjmngonpijeiaa
set_option maxRecDepth 100000
open Go.ChangeShapes Go.WideShapes Go.ChangeAt Go.RowKit Pl
set_option linter.unusedVariables false

theorem rcount_any (n : Nat) (w : World) (h1 : n ≤ 4611686018427387904) :
    Calls Try.prog 51 #[.int .i64 n] w fun e w' => e = .returned (.int .i64 (cntN n : Nat)) ∧ w = w' := by
  by_cases h0 : n < 1
  · have HC : Hid (cntN n = 1) := Lib.hid (by unfold cntN; rw [if_pos (by omega)])
    go_enter Try.func51, Try.ntmps51
    go_wp2
    go_ret
    exact ⟨retv (by rw [HC.out]; rfl), rfl⟩
  · by_cases hm : (n : Int) % 4 = 0
    · have HC : Hid (cntN n = n / 4) := Lib.hid (by unfold cntN; split <;> omega)
      go_enter Try.func51, Try.ntmps51
      go_wp2
      go_ret
      exact ⟨retv (by rw [HC.out]; rfl), rfl⟩
    · have HC : Hid (cntN n = n / 4 + 1) := Lib.hid (by unfold cntN; split <;> omega)
      go_enter Try.func51, Try.ntmps51
      go_wp2
      go_ret
      exact ⟨retv (by rw [HC.out]; rfl), rfl⟩

end Go.Proofs.Ytcjmngonpijeiaa
