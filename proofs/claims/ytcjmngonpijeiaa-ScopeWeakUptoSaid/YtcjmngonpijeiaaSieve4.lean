/- sieve.Add: what it returns. -/
import Derived.Test.YtcjmngonpijeiaaSieve2
namespace Go.Proofs.Ytcjmngonpijeiaa
set_option maxRecDepth 100000
open Go.RowKit Pl
set_option linter.unusedVariables false

theorem info_u64 : (Try.prog.info? 82).map (fun i => (i.zero, i.size, i.bytes)) = some (some (.int .u64 0), 1, 8) := by kernel_rfl

/-- a filter of the call's own is returned -/
def RetFilt (W : World) (n : Nat) (sh : Int) (xs : List Nat) (e : Ending) (w' : World) : Prop :=
  ∃ g c, e = .returned (.tuple #[.agg #[.slice (some ⟨g, 0, none⟩) n c, .int .i64 sh], .int .i64 0]) ∧
    w'.ownsRow W.heap.size 82 1 (.slice (some ⟨g, 0, none⟩) n c) n (u64s xs) ∧ Below W.heap.size W w'

end Go.Proofs.Ytcjmngonpijeiaa
