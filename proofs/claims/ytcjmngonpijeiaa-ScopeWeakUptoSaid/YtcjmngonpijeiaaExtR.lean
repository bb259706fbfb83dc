/- A region that draws its order, whose operations only read what was there, and whose callees change nothing that was there: one walk of the order of the text. -/
import Derived.Test.YtcjmngonpijeiaaMem
import Derived.Deep.QuietTactic
import Derived.BigQuiet
namespace Go.Proofs.Ytcjmngonpijeiaa
set_option maxRecDepth 100000
open Go.RowKit
set_option linter.unusedVariables false

/-- a world in which nothing of another one has turned -/
def EW (w0 : World) : Type := {u : World // Ext w0 u}
instance {w0 : World} : Nonempty (EW w0) := ⟨⟨w0, Ext.refl w0⟩⟩
def EW.w {w0 : World} (u : EW w0) : World := u.1
theorem EW.ext {w0 : World} (u : EW w0) : Ext w0 u.w := u.2
theorem EW.cell {w0 : World} (u : EW w0) {b o : Nat} {v : Value} (h : w0.cell? ⟨b, o, none⟩ = some v) : u.w.cell? ⟨b, o, none⟩ = some v := u.2.cell h

theorem wp_region_ext {P : Program} {id : Nat} {Q : Exit → Act → World → Prop} {a : Act} {w : World} {l : List Oper} (hm : P.follows .mixedOrders = true) (hB : Region.lexB .any l.toArray = true)
    (h : wpQuiet P l.toArray (fun w' => ∃ u : EW w, w' = u.w) (fun a' => ∀ w', (∃ u : EW w, w' = u.w) → Q .normal a' w') l a) : (Code.region id l.toArray true).wp P Q a w :=
  wp_region_quiet (C := fun w' => ∃ u : EW w, w' = u.w) hm hB ⟨⟨{ w with drawn := w.drawn + 1 }, Ext.drew w⟩, rfl⟩ (by simpa using h)

theorem ext_call {P : Program} {f : FuncId} {args : Array Value} {w0 : World} {u : EW w0} {v : Value} (h : Calls P f args u.w fun e w' => e = .returned v ∧ Ext u.w w') : Calls P f args u.w fun e w'' => e = .returned v ∧ ∃ u' : EW w0, w'' = u'.w :=
  h.mono fun e w' ⟨he, hx⟩ => ⟨he, ⟨⟨w', u.2.trans hx⟩, rfl⟩⟩

theorem ext_same {P : Program} {f : FuncId} {args : Array Value} {w0 : World} {u : EW w0} {v : Value} (h : Calls P f args u.w fun e w' => e = .returned v ∧ u.w = w') : Calls P f args u.w fun e w'' => e = .returned v ∧ ∃ u' : EW w0, w'' = u'.w :=
  h.mono fun e w' ⟨he, hx⟩ => ⟨he, ⟨u, hx.symm⟩⟩

end Go.Proofs.Ytcjmngonpijeiaa
