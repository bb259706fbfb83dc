/- An image put behind others, or ahead of them: what is found, in plain Lean. -/
import Derived.Test.YtcjmngonpijeiaaLookP
import Derived.Test.YtcjmngonpijeiaaStab
namespace Go.Proofs.Ytcjmngonpijeiaa
set_option maxRecDepth 100000
open Go.RowKit Pl
set_option linter.unusedVariables false

theorem lookF_cases (r : Sym) (skip : Int) (ims : List Im) :
    (∃ k, k < ims.length ∧ (∀ j, j < k → hitB r skip ims j = false) ∧ hitB r skip ims k = true ∧ lookF r skip ims = ((k : Int), (findI r ims k).1, true)) ∨
    ((∀ j, j < ims.length → hitB r skip ims j = false) ∧ lookF r skip ims = (0, 0, false)) := by
  rcases first_false (fun j => !hitB r skip ims j) ims.length with h | ⟨k, h1, h2, h3⟩
  · right
    have hn : ∀ j, j < ims.length → hitB r skip ims j = false := fun j hj => by have := h j hj; simpa using this
    exact ⟨hn, (look_none hn).1⟩
  · left
    have hn : ∀ j, j < k → hitB r skip ims j = false := fun j hj => by have := h3 j hj; simpa using this
    have hk : hitB r skip ims k = true := by simpa using h2
    exact ⟨k, h1, hn, hk, (look_hit h1 hn hk).1⟩

theorem findI_left {r : Sym} {ims : List Im} {m : Im} {j : Nat} (h : j < ims.length) : findI r (ims ++ [m]) j = findI r ims j := by
  unfold findI
  rw [List.getD_eq_getElem?_getD, List.getElem?_append_left h, ← List.getD_eq_getElem?_getD]
theorem findI_last {r : Sym} {ims : List Im} {m : Im} : findI r (ims ++ [m]) ims.length = findI r [m] 0 := by
  unfold findI
  rw [List.getD_eq_getElem?_getD, List.getElem?_append_right (Nat.le_refl _), Nat.sub_self]
  rfl
theorem findI_cons {r : Sym} {ims : List Im} {m : Im} {j : Nat} : findI r (m :: ims) (j + 1) = findI r ims j := by
  unfold findI
  rw [List.getD_cons_succ]
theorem hit_one (r : Sym) (ims : List Im) (j : Nat) : hitB r (-1) ims j = decide (0 ≤ (findI r ims j).1) := by
  unfold hitB
  rw [decide_eq_true (by omega : (j : Int) ≠ -1), Bool.true_and]

/-- behind others -/
theorem look_snoc (r : Sym) (ims : List Im) (m : Im) : ((lookF r (-1) ims).2.2 = true → lookF r (-1) (ims ++ [m]) = lookF r (-1) ims) ∧ ((lookF r (-1) ims).2.2 = false → (lookF r (-1) (ims ++ [m])).2.2 = (lookF r (-1) [m]).2.2) := by
  have hl : (ims ++ [m]).length = ims.length + 1 := by simp
  have hb : ∀ j, j < ims.length → hitB r (-1) (ims ++ [m]) j = hitB r (-1) ims j := fun j hj => by rw [hit_one, hit_one, findI_left hj]
  rcases lookF_cases r (-1) ims with ⟨k, h1, h2, h3, h4⟩ | ⟨h2, h4⟩
  · refine ⟨fun _ => ?_, fun h => (by rw [h4] at h; cases h)⟩
    rw [h4, (look_hit (ims := ims ++ [m]) (k := k) (by omega) (fun j hj => by rw [hb j (by omega)]; exact h2 j hj) (by rw [hb k h1]; exact h3)).1, findI_left h1]
  · refine ⟨fun h => (by rw [h4] at h; cases h), fun _ => ?_⟩
    have hlast : hitB r (-1) (ims ++ [m]) ims.length = hitB r (-1) [m] 0 := by rw [hit_one, hit_one, findI_last]
    cases hc : hitB r (-1) [m] 0 with
    | true =>
      rw [(look_hit (ims := ims ++ [m]) (k := ims.length) (by omega) (fun j hj => by rw [hb j hj]; exact h2 j hj) (by rw [hlast]; exact hc)).1,
        (look_hit (ims := [m]) (k := 0) (by simp) (fun j hj => absurd hj (by omega)) hc).1]
    | false =>
      rw [(look_none (ims := ims ++ [m]) (fun j hj => by
          rcases Nat.lt_or_ge j ims.length with h | h
          · rw [hb j h]; exact h2 j h
          · have : j = ims.length := by omega
            rw [this, hlast]; exact hc)).1,
        (look_none (ims := [m]) (fun j hj => by
          have : j = 0 := by simp at hj; omega
          rw [this]; exact hc)).1]

/-- ahead of them, skipped -/
theorem look_skip (r : Sym) (ims : List Im) (m : Im) : ((lookF r (-1) ims).2.2 = true → lookF r 0 (m :: ims) = ((lookF r (-1) ims).1 + 1, (lookF r (-1) ims).2.1, true)) ∧ ((lookF r (-1) ims).2.2 = false → lookF r 0 (m :: ims) = (0, 0, false)) := by
  have h0 : hitB r 0 (m :: ims) 0 = false := rfl
  have hb : ∀ j, hitB r 0 (m :: ims) (j + 1) = hitB r (-1) ims j := fun j => by
    rw [hit_one]
    unfold hitB
    rw [findI_cons, decide_eq_true (by omega : ((j + 1 : Nat) : Int) ≠ 0), Bool.true_and]
  rcases lookF_cases r (-1) ims with ⟨k, h1, h2, h3, h4⟩ | ⟨h2, h4⟩
  · refine ⟨fun _ => ?_, fun h => (by rw [h4] at h; cases h)⟩
    rw [h4, (look_hit (ims := m :: ims) (k := k + 1) (by simp; omega) (fun j hj => by
      cases j with
      | zero => exact h0
      | succ j => rw [hb]; exact h2 j (by omega)) (by rw [hb]; exact h3)).1, findI_cons]
    rfl
  · refine ⟨fun h => (by rw [h4] at h; cases h), fun _ => ?_⟩
    rw [(look_none (ims := m :: ims) (fun j hj => by
      cases j with
      | zero => exact h0
      | succ j => rw [hb]; exact h2 j (by simpa using hj))).1]

/-- ahead of them -/
theorem look_ahead (r : Sym) (ims : List Im) (m : Im) : ((lookF r (-1) [m]).2.2 = true → lookF r (-1) (m :: ims) = (0, (lookF r (-1) [m]).2.1, true)) ∧ ((lookF r (-1) [m]).2.2 = false → lookF r (-1) (m :: ims) = lookF r 0 (m :: ims)) := by
  have h0 : hitB r (-1) (m :: ims) 0 = hitB r (-1) [m] 0 := by rw [hit_one, hit_one]; rfl
  have h00 : hitB r 0 (m :: ims) 0 = false := rfl
  have hb : ∀ j, hitB r (-1) (m :: ims) (j + 1) = hitB r 0 (m :: ims) (j + 1) := fun j => by
    rw [hit_one]
    unfold hitB
    rw [decide_eq_true (by omega : ((j + 1 : Nat) : Int) ≠ 0), Bool.true_and]
  cases hc : hitB r (-1) [m] 0 with
  | true =>
    have e1 := (look_hit (r := r) (skip := -1) (ims := [m]) (k := 0) (by simp) (fun j hj => absurd hj (by omega)) hc).1
    have e2 := (look_hit (r := r) (skip := -1) (ims := m :: ims) (k := 0) (by simp) (fun j hj => absurd hj (by omega)) (by rw [h0]; exact hc)).1
    refine ⟨fun _ => (by rw [e1, e2]; rfl), fun h => (by rw [e1] at h; cases h)⟩
  | false =>
    have e1 := (look_none (r := r) (skip := -1) (ims := [m]) (fun j hj => by
          have : j = 0 := by simp at hj; omega
          rw [this]; exact hc)).1
    refine ⟨fun h => (by rw [e1] at h; cases h), fun _ => ?_⟩
    rcases lookF_cases r 0 (m :: ims) with ⟨k, h1, h2, h3, h4⟩ | ⟨h2, h4⟩
    · rw [h4]
      have hk : k ≠ 0 := fun e => by rw [e, h00] at h3; cases h3
      obtain ⟨q, rfl⟩ : ∃ q, k = q + 1 := ⟨k - 1, by omega⟩
      rw [(look_hit (r := r) (skip := -1) (ims := m :: ims) (k := q + 1) h1 (fun j hj => by
        cases j with
        | zero => rw [h0]; exact hc
        | succ j => rw [hb]; exact h2 _ hj) (by rw [hb]; exact h3)).1]
    · rw [h4, (look_none (r := r) (skip := -1) (ims := m :: ims) (fun j hj => by
        cases j with
        | zero => rw [h0]; exact hc
        | succ j => rw [hb]; exact h2 _ hj)).1]

end Go.Proofs.Ytcjmngonpijeiaa
