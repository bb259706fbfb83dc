/- Plain facts on numbers and lists, of no program. -/
import Derived.Below
namespace Go.Proofs.Ytcjmngonpijeiaa.Pl
set_option maxRecDepth 100000

/-- one step of the hash -/
def hstep (h : Int) (b : UInt8) : Int := (33 * h + (b.toNat : Int)) % 4294967296

/-- the hash of a list of bytes behind a number -/
def hmore (h : Int) (l : List UInt8) : Int := l.foldl hstep h

theorem hmore_append (h : Int) (a b : List UInt8) : hmore h (a ++ b) = hmore (hmore h a) b := by
  unfold hmore; rw [List.foldl_append]

theorem hmore_bd (h : Int) (l : List UInt8) (h0 : 0 ≤ h) (h1 : h < 4294967296) : 0 ≤ hmore h l ∧ hmore h l < 4294967296 := by
  unfold hmore
  induction l generalizing h with
  | nil => exact ⟨h0, h1⟩
  | cons b l ih => exact ih _ (by unfold hstep; omega) (by unfold hstep; omega)

theorem take_snoc (s : ByteArray) (k : Nat) (h : k < s.size) : s.data.toList.take (k + 1) = s.data.toList.take k ++ [s[k]] := by
  rw [List.take_succ_eq_append_getElem (by simpa using h)]; rfl

theorem hmore_take (h : Int) (s : ByteArray) (k : Nat) (hk : k < s.size) :
    hmore h (s.data.toList.take (k + 1)) = hstep (hmore h (s.data.toList.take k)) s[k] := by
  rw [take_snoc s k hk, hmore_append]; rfl

theorem ret_int {k : IntKind} {a b : Int} (h : a = b) : Ending.returned (.int k a) = .returned (.int k b) := by rw [h]

end Go.Proofs.Ytcjmngonpijeiaa.Pl
