/- What is looked for in images, in plain Lean. -/
import Derived.Test.YtcjmngonpijeiaaOpI
import Derived.Test.YtcjmngonpijeiaaRFind
import Derived.Test.YtcjmngonpijeiaaMk2
namespace Go.Proofs.Ytcjmngonpijeiaa
set_option maxRecDepth 100000
open Go.RowKit Pl
set_option linter.unusedVariables false

/-- by the table of image number i -/
def findI (r : Sym) (ims : List Im) (i : Nat) : Int × Nat := findP (ims.getD i im0).t r (ims.getD i im0).l
/-- image number i has it -/
def hitB (r : Sym) (skip : Int) (ims : List Im) (i : Nat) : Bool := decide ((i : Int) ≠ skip) && decide (0 ≤ (findI r ims i).1)
/-- names compared in image number i, of the first k -/
def cnt1 (r : Sym) (skip : Int) (ims : List Im) (k i : Nat) : Int := if i < k ∧ (i : Int) ≠ skip then ((findI r ims i).2 : Int) else 0
def cntK (r : Sym) (skip : Int) (ims : List Im) (k : Nat) : List Int := (List.range ims.length).map (cnt1 r skip ims k)
def lookI (r : Sym) (skip : Int) (ims : List Im) : Option Nat := (List.range ims.length).find? (hitB r skip ims)
/-- the definition: which image, which symbol, is there one -/
def lookF (r : Sym) (skip : Int) (ims : List Im) : Int × Int × Bool := match lookI r skip ims with | some k => ((k : Int), (findI r ims k).1, true) | none => (0, 0, false)
def lookN (r : Sym) (skip : Int) (ims : List Im) : List Int := match lookI r skip ims with | some k => cntK r skip ims (k + 1) | none => cntK r skip ims ims.length

theorem cntK_len (r : Sym) (skip : Int) (ims : List Im) (k : Nat) : (cntK r skip ims k).length = ims.length := by simp [cntK]
theorem cntK_zero (r : Sym) (skip : Int) (ims : List Im) : cntK r skip ims 0 = List.replicate ims.length 0 := by
  apply List.ext_getElem (by simp [cntK])
  intro i h1 h2
  simp [cntK, cnt1]
theorem cntK_skip {r : Sym} {skip : Int} {ims : List Im} {k : Nat} (h : (k : Int) = skip) : cntK r skip ims (k + 1) = cntK r skip ims k := by
  unfold cntK
  apply List.map_congr_left
  intro i hi
  unfold cnt1
  by_cases e : i = k
  · subst e; rw [if_neg (by simp [h]), if_neg (by omega)]
  · by_cases h2 : i < k ∧ (i : Int) ≠ skip
    · rw [if_pos h2, if_pos ⟨by omega, h2.2⟩]
    · rw [if_neg h2, if_neg (fun h3 => h2 ⟨by omega, h3.2⟩)]
theorem cntK_set {r : Sym} {skip : Int} {ims : List Im} {k : Nat} (h : (k : Int) ≠ skip) (hk : k < ims.length) : cntK r skip ims (k + 1) = (cntK r skip ims k).set k ((findI r ims k).2 : Int) := by
  apply List.ext_getElem (by simp [cntK])
  intro i h1 h2
  rw [List.getElem_set]
  simp only [cntK, List.getElem_map, List.getElem_range]
  by_cases e : k = i
  · subst e
    rw [if_pos rfl]
    unfold cnt1
    rw [if_pos ⟨by omega, h⟩]
  · rw [if_neg e]
    unfold cnt1
    by_cases h3 : i < k ∧ (i : Int) ≠ skip
    · rw [if_pos h3, if_pos ⟨by omega, h3.2⟩]
    · rw [if_neg h3, if_neg (fun h4 => h3 ⟨by omega, h4.2⟩)]

/-- the first of a row of numbers -/
theorem find_range {p : Nat → Bool} : ∀ {n k : Nat}, k < n → (∀ j, j < k → p j = false) → p k = true → (List.range n).find? p = some k := by
  intro n k hk hn hp
  rw [List.find?_eq_some_iff_append]
  refine ⟨hp, List.range k, (List.range' (k + 1) (n - (k + 1))), ?_, ?_⟩
  · rw [List.range_eq_range', List.range_eq_range']
    have e := List.range'_append_1 (s := 0) (m := k) (n := n - k)
    rw [Nat.zero_add, show k + (n - k) = n by omega] at e
    rw [← e, show n - k = (n - (k + 1)) + 1 by omega, List.range'_succ]
  · intro a ha
    simp [hn a (List.mem_range.1 ha)]
theorem find_none {p : Nat → Bool} {n : Nat} (hn : ∀ j, j < n → p j = false) : (List.range n).find? p = none := by
  rw [List.find?_eq_none]
  intro a ha
  simp [hn a (List.mem_range.1 ha)]

theorem look_hit {r : Sym} {skip : Int} {ims : List Im} {k : Nat} (hk : k < ims.length) (hn : ∀ j, j < k → hitB r skip ims j = false) (hp : hitB r skip ims k = true) :
    lookF r skip ims = ((k : Int), (findI r ims k).1, true) ∧ lookN r skip ims = cntK r skip ims (k + 1) := by
  unfold lookF lookN lookI
  rw [find_range hk hn hp]
  exact ⟨rfl, rfl⟩
theorem look_none {r : Sym} {skip : Int} {ims : List Im} (hn : ∀ j, j < ims.length → hitB r skip ims j = false) : lookF r skip ims = (0, 0, false) ∧ lookN r skip ims = cntK r skip ims ims.length := by
  unfold lookF lookN lookI
  rw [find_none hn]
  exact ⟨rfl, rfl⟩

/-- what is answered: the definition, and a row of the call's own of how many names were compared -/
def LkP (r : Sym) (skip : Int) (ims : List Im) (w : World) (e : Ending) (w' : World) : Prop :=
  ∃ v, e = .returned (.tuple #[.agg #[.int .i64 (lookF r skip ims).1, .int .i64 (lookF r skip ims).2.1, .bool (lookF r skip ims).2.2], v]) ∧ w'.ownsRow w.heap.size 3 1 v ims.length (ints (lookN r skip ims)) ∧ Ext w w'

theorem LkP.mk {r : Sym} {skip : Int} {ims : List Im} {w w' : World} {v : Value} {i k : Int} {b : Bool} {ns : List Int} (h1 : lookF r skip ims = (i, k, b)) (h2 : lookN r skip ims = ns) (ho : w'.ownsRow w.heap.size 3 1 v ims.length (ints ns)) (hx : Ext w w') :
    LkP r skip ims w (.returned (.tuple #[.agg #[.int .i64 i, .int .i64 k, .bool b], v])) w' := ⟨v, by rw [h1], by rw [h2]; exact ho, hx⟩

end Go.Proofs.Ytcjmngonpijeiaa
