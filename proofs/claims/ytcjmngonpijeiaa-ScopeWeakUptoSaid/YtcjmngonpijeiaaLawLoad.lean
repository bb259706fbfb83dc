/- clevislaw08.TableLoad. -/
import Derived.Test.YtcjmngonpijeiaaAw8
namespace Go.Proofs.Ytcjmngonpijeiaa
set_option maxRecDepth 100000
open Go.ChangeShapes Go.WideShapes Go.ChangeAt Go.RowKit Pl
set_option linter.unusedVariables false

theorem bk_step (f : Nat → Nat) (m : Nat) (is : List Nat) : (is.filter fun i => decide (f i < m + 1)).length = (is.filter fun i => decide (f i < m)).length + (is.filter fun i => decide (f i = m)).length := by
  induction is with
  | nil => rfl
  | cons a r ih =>
    simp only [List.filter_cons]
    rcases Nat.lt_trichotomy (f a) m with h | h | h
    · rw [decide_eq_true (by omega : f a < m + 1), decide_eq_true h, decide_eq_false (by omega : ¬ f a = m)]
      simp only [if_true, List.length_cons, Bool.false_eq_true, if_false]
      omega
    · rw [decide_eq_true (by omega : f a < m + 1), decide_eq_false (by omega : ¬ f a < m), decide_eq_true h]
      simp only [if_true, List.length_cons, Bool.false_eq_true, if_false]
      omega
    · rw [decide_eq_false (by omega : ¬ f a < m + 1), decide_eq_false (by omega : ¬ f a < m), decide_eq_false (by omega : ¬ f a = m)]
      simp only [Bool.false_eq_true, if_false]
      exact ih
theorem bks_total (l : List Sym) (is : List Nat) (many : Nat) : ∀ m, ((List.range m).map fun b => (natI (bkI l many is b)).length).sum = (is.filter fun i => decide (hashN (l.getD i sym0).name % many < m)).length
  | 0 => by rw [List.filter_eq_nil_iff.2 (fun i _ => by simp)]; rfl
  | m + 1 => by
    rw [List.range_succ, List.map_append, List.sum_append, bks_total l is many m, bk_step (fun i => hashN (l.getD i sym0).name % many) m is]
    simp [natI_len, bkI]
theorem total_made (t : Tb) (l : List Sym) (many : Nat) (hm : 0 < many) (h : t.bs.map Bk.is = bksI l many (seenI l)) : total t.bs = (seenI l).length := by
  unfold total
  have e : (t.bs.map fun k => k.is.length) = (bksI l many (seenI l)).map List.length := by rw [← h, List.map_map]; rfl
  rw [e]
  unfold bksI
  rw [List.map_map]
  have := bks_total l (seenI l) many many
  rw [show (List.map (List.length ∘ fun b => natI (bkI l many (seenI l) b)) (List.range many)).sum = ((List.range many).map fun b => (natI (bkI l many (seenI l) b)).length).sum from rfl, this]
  rw [List.filter_eq_self.2 (fun i _ => decide_eq_true (Nat.mod_lt _ hm))]
theorem cntN_four (n : Nat) : n ≤ 4 * cntN n := by unfold cntN; split <;> omega
theorem seenK_more (l : List Sym) (k : Nat) : (seenK l (k + 1)).length = (seenK l k).length + if seenB (l.getD k sym0) then 1 else 0 := by
  rw [seenK_succ, List.length_append]
  cases seenB (l.getD k sym0) <;> rfl
theorem total_mono (bs : List Bk) (b : Nat) : total (bs.take b) ≤ total bs := by
  unfold total
  conv => rhs; rw [← List.take_append_drop b bs]
  rw [List.map_append, List.sum_append]
  omega

end Go.Proofs.Ytcjmngonpijeiaa
