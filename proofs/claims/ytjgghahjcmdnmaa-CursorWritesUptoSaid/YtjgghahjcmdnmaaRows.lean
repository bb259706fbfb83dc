/-
  No cell of these rows narrows 'for every input' (looked for: loops, veiled, ifaces, maps, wideKeys, modest, calm, conditions, laid).
  DERIVED. THE GIVEN ROWS OF THIS SEAT. 8 by the template 'for every input the law returns true; each argument reads behind the call as it read before'; 0 by the template 'total and deterministic' (their statements: YtjgghahjcmdnmaaTotals.lean).
  GIVEN WITH THE SEED: the statements are not yours to turn. If you find one false, say at which input.
  Laid BY PROGRAM, IN A SANDBOX (cutbox-rows.mjs): the forced cells as the released guide's own fill.sh prints them over the translation e560db6103304d83… (all of the seat's roots in one cut). By AI agents, Wed Nov 11 2026. No macro, syntax, notation, axiom, sorry.
-/
import Derived.Test.YtjgghahjcmdnmaaChecked
import GoSem.Claim
import GoSem.ClaimJoined
import GoSem.ClaimMapViews
import Derived.JoinedTies
import Derived.KernelRfl
namespace Go.Proofs.Ytjgghahjcmdnmaa
/- THE CELL 'sum', in the pinned program and in every row, IS THE sha256 OF THE DUMP (.gsa) THAT YtjgghahjcmdnmaaProg.lean LOADS. Nothing in Lean hashes anything: it is a label: what it is worth is what the hold of that sum in a sandbox is worth. -/
noncomputable def Try.pinned : Pinned := { name := "ytjgghahjcmdnmaa", sum := "e560db6103304d83b94560ab70814f6912f58f55ff56ddfc458f7ff6a77cc911", checked := Try.checked }
namespace Rows
def none {H : Type} : Left H := { results := [], args := [] }

/-- 'clevislaw01.CursorParts': WHATEVER THE INPUT: true; the input reads as it did. -/
def cursorPartsSpec : ChangeSpec := { name := "cursorParts", fn := fun _ => fun
  | [d1, d2, d3] => { results := [.lit (.bool true)], args := [d1, d2, d3] }
  | _ => none }
def cursorPartsRow : OpenClaim := { program := "ytjgghahjcmdnmaa", sum := "e560db6103304d83b94560ab70814f6912f58f55ff56ddfc458f7ff6a77cc911", func := "clevis/clevislaw01.CursorParts", spec := "cursorParts", apart := false }
def CursorPartsSaid : Prop := cursorPartsRow.holds Try.pinned (OpenSpec.ofChange cursorPartsSpec)

/-- ITS FALSE NEIGHBOUR: 'it returns false'. Refute it at one input. -/
def cursorPartsWrong : ChangeSpec := { name := "cursorParts", fn := fun _ => fun
  | [d1, d2, d3] => { results := [.lit (.bool false)], args := [d1, d2, d3] }
  | _ => none }
def CursorPartsWrongFalsely : Prop := cursorPartsRow.holds Try.pinned (OpenSpec.ofChange cursorPartsWrong)

/-- 'clevislaw01.CursorNumbers': WHATEVER THE INPUT: true; the input reads as it did. -/
def cursorNumbersSpec : ChangeSpec := { name := "cursorNumbers", fn := fun _ => fun
  | [d1, d2] => { results := [.lit (.bool true)], args := [d1, d2] }
  | _ => none }
def cursorNumbersRow : OpenClaim := { program := "ytjgghahjcmdnmaa", sum := "e560db6103304d83b94560ab70814f6912f58f55ff56ddfc458f7ff6a77cc911", func := "clevis/clevislaw01.CursorNumbers", spec := "cursorNumbers", apart := false }
def CursorNumbersSaid : Prop := cursorNumbersRow.holds Try.pinned (OpenSpec.ofChange cursorNumbersSpec)

/-- ITS FALSE NEIGHBOUR: 'it returns false'. Refute it at one input. -/
def cursorNumbersWrong : ChangeSpec := { name := "cursorNumbers", fn := fun _ => fun
  | [d1, d2] => { results := [.lit (.bool false)], args := [d1, d2] }
  | _ => none }
def CursorNumbersWrongFalsely : Prop := cursorNumbersRow.holds Try.pinned (OpenSpec.ofChange cursorNumbersWrong)

/-- 'clevislaw01.CursorWrites': WHATEVER THE INPUT: true; the input reads as it did. -/
def cursorWritesSpec : ChangeSpec := { name := "cursorWrites", fn := fun _ => fun
  | [d] => { results := [.lit (.bool true)], args := [d] }
  | _ => none }
def cursorWritesRow : OpenClaim := { program := "ytjgghahjcmdnmaa", sum := "e560db6103304d83b94560ab70814f6912f58f55ff56ddfc458f7ff6a77cc911", func := "clevis/clevislaw01.CursorWrites", spec := "cursorWrites", apart := false }
def CursorWritesSaid : Prop := cursorWritesRow.holds Try.pinned (OpenSpec.ofChange cursorWritesSpec)

/-- ITS FALSE NEIGHBOUR: 'it returns false'. Refute it at one input. -/
def cursorWritesWrong : ChangeSpec := { name := "cursorWrites", fn := fun _ => fun
  | [d] => { results := [.lit (.bool false)], args := [d] }
  | _ => none }
def CursorWritesWrongFalsely : Prop := cursorWritesRow.holds Try.pinned (OpenSpec.ofChange cursorWritesWrong)

/-- 'clevislaw01.CursorSticks': WHATEVER THE INPUT: true; the input reads as it did. -/
def cursorSticksSpec : ChangeSpec := { name := "cursorSticks", fn := fun _ => fun
  | [d1, d2, d3] => { results := [.lit (.bool true)], args := [d1, d2, d3] }
  | _ => none }
def cursorSticksRow : OpenClaim := { program := "ytjgghahjcmdnmaa", sum := "e560db6103304d83b94560ab70814f6912f58f55ff56ddfc458f7ff6a77cc911", func := "clevis/clevislaw01.CursorSticks", spec := "cursorSticks", apart := false }
def CursorSticksSaid : Prop := cursorSticksRow.holds Try.pinned (OpenSpec.ofChange cursorSticksSpec)

/-- ITS FALSE NEIGHBOUR: 'it returns false'. Refute it at one input. -/
def cursorSticksWrong : ChangeSpec := { name := "cursorSticks", fn := fun _ => fun
  | [d1, d2, d3] => { results := [.lit (.bool false)], args := [d1, d2, d3] }
  | _ => none }
def CursorSticksWrongFalsely : Prop := cursorSticksRow.holds Try.pinned (OpenSpec.ofChange cursorSticksWrong)

/-- 'clevislaw01.CursorReads': WHATEVER THE INPUT: true; the input reads as it did. -/
def cursorReadsSpec : ChangeSpec := { name := "cursorReads", fn := fun _ => fun
  | [d1, d2] => { results := [.lit (.bool true)], args := [d1, d2] }
  | _ => none }
def cursorReadsRow : OpenClaim := { program := "ytjgghahjcmdnmaa", sum := "e560db6103304d83b94560ab70814f6912f58f55ff56ddfc458f7ff6a77cc911", func := "clevis/clevislaw01.CursorReads", spec := "cursorReads", apart := false }
def CursorReadsSaid : Prop := cursorReadsRow.holds Try.pinned (OpenSpec.ofChange cursorReadsSpec)

/-- ITS FALSE NEIGHBOUR: 'it returns false'. Refute it at one input. -/
def cursorReadsWrong : ChangeSpec := { name := "cursorReads", fn := fun _ => fun
  | [d1, d2] => { results := [.lit (.bool false)], args := [d1, d2] }
  | _ => none }
def CursorReadsWrongFalsely : Prop := cursorReadsRow.holds Try.pinned (OpenSpec.ofChange cursorReadsWrong)

/-- 'clevislaw01.CursorForm': WHATEVER THE INPUT: true; the input reads as it did. -/
def cursorFormSpec : ChangeSpec := { name := "cursorForm", fn := fun _ => fun
  | [d1, d2] => { results := [.lit (.bool true)], args := [d1, d2] }
  | _ => none }
def cursorFormRow : OpenClaim := { program := "ytjgghahjcmdnmaa", sum := "e560db6103304d83b94560ab70814f6912f58f55ff56ddfc458f7ff6a77cc911", func := "clevis/clevislaw01.CursorForm", spec := "cursorForm", apart := false }
def CursorFormSaid : Prop := cursorFormRow.holds Try.pinned (OpenSpec.ofChange cursorFormSpec)

/-- ITS FALSE NEIGHBOUR: 'it returns false'. Refute it at one input. -/
def cursorFormWrong : ChangeSpec := { name := "cursorForm", fn := fun _ => fun
  | [d1, d2] => { results := [.lit (.bool false)], args := [d1, d2] }
  | _ => none }
def CursorFormWrongFalsely : Prop := cursorFormRow.holds Try.pinned (OpenSpec.ofChange cursorFormWrong)

/-- 'clevislaw01.CursorBack': WHATEVER THE INPUT: true; the input reads as it did. -/
def cursorBackSpec : ChangeSpec := { name := "cursorBack", fn := fun _ => fun
  | [d] => { results := [.lit (.bool true)], args := [d] }
  | _ => none }
def cursorBackRow : OpenClaim := { program := "ytjgghahjcmdnmaa", sum := "e560db6103304d83b94560ab70814f6912f58f55ff56ddfc458f7ff6a77cc911", func := "clevis/clevislaw01.CursorBack", spec := "cursorBack", apart := false }
def CursorBackSaid : Prop := cursorBackRow.holds Try.pinned (OpenSpec.ofChange cursorBackSpec)

/-- ITS FALSE NEIGHBOUR: 'it returns false'. Refute it at one input. -/
def cursorBackWrong : ChangeSpec := { name := "cursorBack", fn := fun _ => fun
  | [d] => { results := [.lit (.bool false)], args := [d] }
  | _ => none }
def CursorBackWrongFalsely : Prop := cursorBackRow.holds Try.pinned (OpenSpec.ofChange cursorBackWrong)

/-- 'clevislaw01.CursorCut': WHATEVER THE INPUT: true; the input reads as it did. -/
def cursorCutSpec : ChangeSpec := { name := "cursorCut", fn := fun _ => fun
  | [d1, d2] => { results := [.lit (.bool true)], args := [d1, d2] }
  | _ => none }
def cursorCutRow : OpenClaim := { program := "ytjgghahjcmdnmaa", sum := "e560db6103304d83b94560ab70814f6912f58f55ff56ddfc458f7ff6a77cc911", func := "clevis/clevislaw01.CursorCut", spec := "cursorCut", apart := false }
def CursorCutSaid : Prop := cursorCutRow.holds Try.pinned (OpenSpec.ofChange cursorCutSpec)

/-- ITS FALSE NEIGHBOUR: 'it returns false'. Refute it at one input. -/
def cursorCutWrong : ChangeSpec := { name := "cursorCut", fn := fun _ => fun
  | [d1, d2] => { results := [.lit (.bool false)], args := [d1, d2] }
  | _ => none }
def CursorCutWrongFalsely : Prop := cursorCutRow.holds Try.pinned (OpenSpec.ofChange cursorCutWrong)

/- THE SECOND FORM. 'bulk': how many values and letters a reading holds, each counted each time it is reached (what is shared counts as often as it is met; a slice's spare places count too). A statement '..UptoSaid' is the law's where the arguments, and the package variables that the reading takes, are together of bulk at most 1048576: NARROWER than '..Said'. Prove '..Said' where nothing that the law and all that it calls make is longer than what came in: it says more and counts as full. Else prove '..UptoSaid'. A law counts once. -/
mutual
def uptoBulk {H : Type} : DataW H → Nat
  | .lit (.string bytes) => bytes.length + 1
  | .lit _ => 1
  | .nil => 1
  | .ptr d => uptoBulk d + 1
  | .slice elems spare => uptoBulkAll elems + uptoBulkAll spare + 1
  | .agg parts => uptoBulkAll parts + 1
  | .iface _ d => uptoBulk d + 1
  | .map entries => uptoBulkEntries entries + 1
  | .held _ => 1
def uptoBulkAll {H : Type} : List (DataW H) → Nat
  | [] => 0
  | d :: r => uptoBulk d + uptoBulkAll r
def uptoBulkEntries {H : Type} : List (Lit × DataW H) → Nat
  | [] => 0
  | x :: r => uptoBulkEntry x + uptoBulkEntries r
def uptoBulkEntry {H : Type} : Lit × DataW H → Nat
  | (.string bytes, d) => bytes.length + uptoBulk d + 1
  | (_, d) => uptoBulk d + 1
 end
def uptoSmall : (H : Type) → List (DataW H) → Bool := fun _ ds => decide (uptoBulkAll ds ≤ 1048576)
def OpenSpec.upto (s : _root_.Go.ChangeSpec) : _root_.Go.OpenSpec := { _root_.Go.OpenSpec.ofChange s with cond := some uptoSmall }

/-- 'clevislaw01.CursorParts', WHERE WHAT IT READS IS OF BULK AT MOST 1048576: true; the input reads as it did. -/
def cursorPartsUptoRow : OpenClaim := { program := "ytjgghahjcmdnmaa", sum := "e560db6103304d83b94560ab70814f6912f58f55ff56ddfc458f7ff6a77cc911", func := "clevis/clevislaw01.CursorParts", spec := "cursorParts", apart := false, narrowed := true }
def CursorPartsUptoSaid : Prop := cursorPartsUptoRow.holds Try.pinned (OpenSpec.upto cursorPartsSpec)

/-- 'clevislaw01.CursorNumbers', WHERE WHAT IT READS IS OF BULK AT MOST 1048576: true; the input reads as it did. -/
def cursorNumbersUptoRow : OpenClaim := { program := "ytjgghahjcmdnmaa", sum := "e560db6103304d83b94560ab70814f6912f58f55ff56ddfc458f7ff6a77cc911", func := "clevis/clevislaw01.CursorNumbers", spec := "cursorNumbers", apart := false, narrowed := true }
def CursorNumbersUptoSaid : Prop := cursorNumbersUptoRow.holds Try.pinned (OpenSpec.upto cursorNumbersSpec)

/-- 'clevislaw01.CursorWrites', WHERE WHAT IT READS IS OF BULK AT MOST 1048576: true; the input reads as it did. -/
def cursorWritesUptoRow : OpenClaim := { program := "ytjgghahjcmdnmaa", sum := "e560db6103304d83b94560ab70814f6912f58f55ff56ddfc458f7ff6a77cc911", func := "clevis/clevislaw01.CursorWrites", spec := "cursorWrites", apart := false, narrowed := true }
def CursorWritesUptoSaid : Prop := cursorWritesUptoRow.holds Try.pinned (OpenSpec.upto cursorWritesSpec)

/-- 'clevislaw01.CursorSticks', WHERE WHAT IT READS IS OF BULK AT MOST 1048576: true; the input reads as it did. -/
def cursorSticksUptoRow : OpenClaim := { program := "ytjgghahjcmdnmaa", sum := "e560db6103304d83b94560ab70814f6912f58f55ff56ddfc458f7ff6a77cc911", func := "clevis/clevislaw01.CursorSticks", spec := "cursorSticks", apart := false, narrowed := true }
def CursorSticksUptoSaid : Prop := cursorSticksUptoRow.holds Try.pinned (OpenSpec.upto cursorSticksSpec)

/-- 'clevislaw01.CursorReads', WHERE WHAT IT READS IS OF BULK AT MOST 1048576: true; the input reads as it did. -/
def cursorReadsUptoRow : OpenClaim := { program := "ytjgghahjcmdnmaa", sum := "e560db6103304d83b94560ab70814f6912f58f55ff56ddfc458f7ff6a77cc911", func := "clevis/clevislaw01.CursorReads", spec := "cursorReads", apart := false, narrowed := true }
def CursorReadsUptoSaid : Prop := cursorReadsUptoRow.holds Try.pinned (OpenSpec.upto cursorReadsSpec)

/-- 'clevislaw01.CursorForm', WHERE WHAT IT READS IS OF BULK AT MOST 1048576: true; the input reads as it did. -/
def cursorFormUptoRow : OpenClaim := { program := "ytjgghahjcmdnmaa", sum := "e560db6103304d83b94560ab70814f6912f58f55ff56ddfc458f7ff6a77cc911", func := "clevis/clevislaw01.CursorForm", spec := "cursorForm", apart := false, narrowed := true }
def CursorFormUptoSaid : Prop := cursorFormUptoRow.holds Try.pinned (OpenSpec.upto cursorFormSpec)

/-- 'clevislaw01.CursorBack', WHERE WHAT IT READS IS OF BULK AT MOST 1048576: true; the input reads as it did. -/
def cursorBackUptoRow : OpenClaim := { program := "ytjgghahjcmdnmaa", sum := "e560db6103304d83b94560ab70814f6912f58f55ff56ddfc458f7ff6a77cc911", func := "clevis/clevislaw01.CursorBack", spec := "cursorBack", apart := false, narrowed := true }
def CursorBackUptoSaid : Prop := cursorBackUptoRow.holds Try.pinned (OpenSpec.upto cursorBackSpec)

/-- 'clevislaw01.CursorCut', WHERE WHAT IT READS IS OF BULK AT MOST 1048576: true; the input reads as it did. -/
def cursorCutUptoRow : OpenClaim := { program := "ytjgghahjcmdnmaa", sum := "e560db6103304d83b94560ab70814f6912f58f55ff56ddfc458f7ff6a77cc911", func := "clevis/clevislaw01.CursorCut", spec := "cursorCut", apart := false, narrowed := true }
def CursorCutUptoSaid : Prop := cursorCutUptoRow.holds Try.pinned (OpenSpec.upto cursorCutSpec)

end Rows
end Go.Proofs.Ytjgghahjcmdnmaa
