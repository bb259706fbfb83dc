/- clevislaw08.TableLooks. -/
import Derived.Test.YtcjmngonpijeiaaLawLoad
namespace Go.Proofs.Ytcjmngonpijeiaa
set_option maxRecDepth 100000
open Go.ChangeShapes Go.WideShapes Go.ChangeAt Go.RowKit Pl
set_option linter.unusedVariables false

theorem findL_cnt (r : Sym) (l : List Sym) (ver : Bool) : ∀ (xs : List Nat) (m : Nat), (∀ x ∈ xs, x < l.length) → (findL r l ver (natI xs) m).2 ≤ m + xs.length ∧ (0 ≤ (findL r l ver (natI xs) m).1 ∨ (findL r l ver (natI xs) m).2 = m + xs.length)
  | [], m, _ => ⟨by simp [natI, findL], .inr (by simp [natI, findL])⟩
  | x :: xs, m, h => by
    have hx := h x (List.mem_cons_self ..)
    have ih := findL_cnt r l ver xs (m + 1) (fun y hy => h y (List.mem_cons_of_mem _ hy))
    have e : natI (x :: xs) = (x : Int) :: natI xs := rfl
    rw [e]
    simp only [findL]
    rw [if_neg (by omega : ¬ ((x : Int) < 0 ∨ (l.length : Int) ≤ x))]
    by_cases hm : matchB r (l.getD (x : Int).toNat sym0) ver = true
    · rw [if_pos hm]
      exact ⟨by simp, .inl (by simp)⟩
    · rw [if_neg hm]
      simp only [List.length_cons]
      omega

/-- how many of the first k are seen and share a bucket -/
def cntU (l : List Sym) (n h k : Nat) : Nat := ((List.range k).filter fun i => seenB (l.getD i sym0) && decide (hashN (l.getD i sym0).name % n = h)).length
theorem cntU_succ (l : List Sym) (n h k : Nat) : cntU l n h (k + 1) = cntU l n h k + if (seenB (l.getD k sym0) && decide (hashN (l.getD k sym0).name % n = h)) = true then 1 else 0 := by
  unfold cntU
  rw [List.range_succ, List.filter_append, List.length_append]
  congr 1
  simp only [List.filter_cons, List.filter_nil]
  split <;> rfl
theorem cntU_le (l : List Sym) (n h k : Nat) : cntU l n h k ≤ k := by
  unfold cntU
  refine Nat.le_trans (List.length_filter_le _ _) ?_
  simp
theorem cntU_all (l : List Sym) (n h : Nat) : cntU l n h l.length = (bkI l n (seenI l) h).length := by
  unfold cntU bkI seenI seenK
  rw [List.filter_filter]
  congr 1
  apply List.filter_congr
  intro i _
  rw [Bool.and_comm]

/-- what is found by a table that is made -/
theorem find_made (t : Tb) (r : Sym) (l : List Sym) (n : Nat) (hn : 1 ≤ n) (h1 : t.bs.map Bk.is = bksI l n (seenI l)) :
    (lackT t.ws t.sh (hashN r.name) = true → findP t r l = (-1, 0)) ∧
    (lackT t.ws t.sh (hashN r.name) = false → (findP t r l).2 ≤ cntU l n (hashN r.name % n) l.length ∧ (0 ≤ (findP t r l).1 ∨ (findP t r l).2 = cntU l n (hashN r.name % n) l.length)) := by
  have hbl : t.bs.length = n := by have := congrArg List.length h1; simpa [bksI_len] using this
  have e : findP t r l = if t.bs.length = 0 ∨ lackT t.ws t.sh (hashN r.name) = true then (-1, 0) else findL r l (verB l) (t.bs.getD (hashN r.name % t.bs.length) bk0).is 0 := rfl
  constructor
  · intro h; rw [e, if_pos (.inr h)]
  · intro h
    have hj : hashN r.name % n < n := Nat.mod_lt _ (by omega)
    have hb : (t.bs.getD (hashN r.name % n) bk0).is = natI (bkI l n (seenI l) (hashN r.name % n)) := by
      have h2 := bksI_get l n (seenI l) hj
      rw [← h1, List.getElem?_map, List.getElem?_eq_getElem (by rw [hbl]; exact hj)] at h2
      rw [List.getD_eq_getElem?_getD, List.getElem?_eq_getElem (by rw [hbl]; exact hj)]
      simpa using h2
    have hz : ¬ (t.bs.length = 0 ∨ lackT t.ws t.sh (hashN r.name) = true) := by
      rw [h, hbl]
      simp
      omega
    rw [e, if_neg hz, hbl, hb, cntU_all]
    have := findL_cnt r l (verB l) (bkI l n (seenI l) (hashN r.name % n)) 0 (fun x hx => seenK_lt l l.length x (List.mem_filter.1 hx).1)
    rw [Nat.zero_add] at this
    exact this

theorem Blk.nine {w : World} {g : Nat} {t : TypeId} {a b c d e f i j k : Value} (h : Blk w g t #[a, b, c, d, e, f, i, j, k]) :
    w.cell? ⟨g, 0, none⟩ = some a ∧ w.cell? ⟨g, 1, none⟩ = some b ∧ w.cell? ⟨g, 2, none⟩ = some c ∧ w.cell? ⟨g, 3, none⟩ = some d ∧ w.cell? ⟨g, 4, none⟩ = some e ∧ w.cell? ⟨g, 5, none⟩ = some f ∧
    w.cell? ⟨g, 6, none⟩ = some i ∧ w.cell? ⟨g, 7, none⟩ = some j ∧ w.cell? ⟨g, 8, none⟩ = some k :=
  ⟨h.cell 0 rfl, h.cell 1 rfl, h.cell 2 rfl, h.cell 3 rfl, h.cell 4 rfl, h.cell 5 rfl, h.cell 6 rfl, h.cell 7 rfl, h.cell 8 rfl⟩

end Go.Proofs.Ytcjmngonpijeiaa
