/- clevisref08.Copied: the walk. -/
import Derived.Test.YtcjmngonpijeiaaCop
import Derived.Test.YtcjmngonpijeiaaMake
namespace Go.Proofs.Ytcjmngonpijeiaa
set_option maxRecDepth 100000
open Go.RowKit Pl
set_option linter.unusedVariables false

theorem ints_one (is : List Int) : ∀ u ∈ ints is, u.oneCell' = true := by
  intro u hu
  obtain ⟨x, _, rfl⟩ := List.mem_map.1 hu
  rfl

theorem take_is (bs : List Bk) {k : Nat} (h : k < bs.length) : (bs.take (k + 1)).map Bk.is = (bs.take k).map Bk.is ++ [(bs.getD k bk0).is] := by
  rw [List.take_succ_eq_append_getElem h, List.map_append, List.getD_eq_getElem?_getD, List.getElem?_eq_getElem h]
  rfl

end Go.Proofs.Ytcjmngonpijeiaa
