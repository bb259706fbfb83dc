/- Plain facts of unions. -/
import Derived.Test.YtmjkkmmgbndcoaaSieveQ
namespace Go.Proofs.Ytmjkkmmgbndcoaa.Pl

def orAll (a b : List Nat) : List Nat := List.zipWith (fun x y => x ||| y) a b

/-- the union of a filter's words and of more filters -/
def unionR (sh : Int) : List Nat → List (List Nat × Int) → Option (List Nat)
  | acc, [] => some acc
  | acc, f :: r => if f.1.length = acc.length ∧ f.2 = sh then unionR sh (orAll acc f.1) r else none

def unionS : List (List Nat × Int) → Option (List Nat × Int)
  | [] => none
  | f :: r => if rightB f.1.length f.2 then (unionR f.2 f.1 r).map fun ws => (ws, f.2) else none

theorem orAll_length {a b : List Nat} (h : b.length = a.length) : (orAll a b).length = a.length := by simp [orAll, h]

theorem orAll_lt {a b : List Nat} (ha : ∀ x ∈ a, x < 18446744073709551616) (hb : ∀ x ∈ b, x < 18446744073709551616) : ∀ x ∈ orAll a b, x < 18446744073709551616 := by
  intro x hx
  unfold orAll at hx
  obtain ⟨i, hi, rfl⟩ := List.getElem_of_mem hx
  rw [List.getElem_zipWith]
  exact Nat.or_lt_two_pow (n := 64) (ha _ (List.getElem_mem _)) (hb _ (List.getElem_mem _))

/-- so many words are joined already -/
def rowj (a b : List Nat) (j : Nat) : List Nat := (orAll a b).take j ++ a.drop j

theorem rowj_zero (a b : List Nat) : rowj a b 0 = a := by simp [rowj]
theorem rowj_length {a b : List Nat} (h : b.length = a.length) {j : Nat} (hj : j ≤ a.length) : (rowj a b j).length = a.length := by
  simp [rowj, orAll_length h]; omega
theorem rowj_all {a b : List Nat} (h : b.length = a.length) : rowj a b a.length = orAll a b := by
  unfold rowj
  rw [List.drop_length, List.append_nil, List.take_of_length_le (by rw [orAll_length h]; exact Nat.le_refl _)]
theorem rowj_get {a b : List Nat} (h : b.length = a.length) {j : Nat} (hj : j < a.length) : (rowj a b j).getD j 0 = a.getD j 0 := by
  unfold rowj
  rw [List.getD_eq_getElem?_getD, List.getElem?_append_right (by rw [List.length_take]; omega), List.getD_eq_getElem?_getD]
  have : j - ((orAll a b).take j).length = 0 := by simp [orAll_length h]; omega
  rw [this]
  simp
theorem rowj_succ {a b : List Nat} (h : b.length = a.length) {j : Nat} (hj : j < a.length) : rowj a b (j + 1) = (rowj a b j).set j (a.getD j 0 ||| b.getD j 0) := by
  have hl : ((orAll a b).take j).length = j := by simp [orAll_length h]; omega
  unfold rowj
  rw [List.set_append_right _ _ (by omega), hl, Nat.sub_self, List.take_succ_eq_append_getElem (by rw [orAll_length h]; exact hj), List.append_assoc]
  congr 1
  rw [List.drop_eq_getElem_cons hj]
  simp only [List.set_cons_zero, List.singleton_append]
  congr 1
  simp only [orAll, List.getElem_zipWith]
  rw [List.getD_eq_getElem?_getD, List.getElem?_eq_getElem hj, List.getD_eq_getElem?_getD, List.getElem?_eq_getElem (by omega)]
  rfl

theorem unionR_length (sh : Int) : ∀ (fs : List (List Nat × Int)) (acc ws : List Nat), unionR sh acc fs = some ws → ws.length = acc.length
  | [], acc, ws, h => by simp [unionR] at h; rw [h]
  | f :: r, acc, ws, h => by
    unfold unionR at h
    split at h
    · rename_i hc
      rw [unionR_length sh r _ _ h, orAll_length hc.1]
    · cases h

end Go.Proofs.Ytmjkkmmgbndcoaa.Pl
