/- Texts, compared byte by byte. -/
import Derived.Test.YtcjmngonpijeiaaSymP
namespace Go.Proofs.Ytcjmngonpijeiaa
set_option maxRecDepth 100000

theorem toList_loop (s : ByteArray) : ∀ (n i : Nat) (r : List UInt8), s.size - i = n → ByteArray.toList.loop s i r = r.reverse ++ s.data.toList.drop i
  | 0, i, r, h => by
    unfold ByteArray.toList.loop
    rw [if_neg (by omega), List.drop_of_length_le (by simp; omega)]
    simp
  | n + 1, i, r, h => by
    unfold ByteArray.toList.loop
    have hi : i < s.size := by omega
    rw [if_pos hi, toList_loop s n (i + 1) _ (by omega)]
    have hi' : i < s.data.toList.length := by simpa using hi
    have hg : s.get! i = s.data.toList[i] := by
      show s.data[i]! = _
      rw [getElem!_pos s.data i (by simpa using hi)]
      simp
    rw [List.drop_eq_getElem_cons hi', hg]
    simp

theorem toList_is (s : ByteArray) : s.toList = s.data.toList := by
  unfold ByteArray.toList
  rw [toList_loop s _ 0 [] rfl]
  simp

theorem toList_eq (a b : ByteArray) : (a.toList == b.toList) = decide (a = b) := by
  rw [toList_is, toList_is]
  by_cases h : a = b
  · subst h; simp
  · have : a.data.toList ≠ b.data.toList := by
      intro e
      apply h
      cases a; cases b
      simp only at e
      congr 1
      exact Array.toList_inj.1 e
    rw [decide_eq_false h]
    exact beq_eq_false_iff_ne.2 this

theorem empty_iff (s : ByteArray) : s.toList = [] ↔ s.size = 0 := by
  rw [toList_is]
  constructor
  · intro h; have := congrArg List.length h; simpa using this
  · intro h; exact List.length_eq_zero_iff.1 (by simpa using h)

end Go.Proofs.Ytcjmngonpijeiaa
