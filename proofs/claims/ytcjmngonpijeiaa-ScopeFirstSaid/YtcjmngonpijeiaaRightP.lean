/- Whether a table is right, as the document says it: plain Lean. -/
import Derived.Test.YtcjmngonpijeiaaFirstP
namespace Go.Proofs.Ytcjmngonpijeiaa
set_option maxRecDepth 100000
open Go.RowKit Pl
set_option linter.unusedVariables false

/-- places grow -/
def incB : List Int → Bool
  | a :: b :: r => decide (a < b) && incB (b :: r)
  | _ => true
theorem incB_tail {a : Int} {r : List Int} (h : incB (a :: r) = true) : incB r = true := by
  cases r with
  | nil => rfl
  | cons b r => simp only [incB, Bool.and_eq_true] at h; exact h.2
theorem incB_gt {a : Int} : ∀ {r : List Int}, incB (a :: r) = true → ∀ x ∈ r, a < x
  | [], _, x, hx => by cases hx
  | b :: r, h, x, hx => by
    simp only [incB, Bool.and_eq_true, decide_eq_true_eq] at h
    rcases List.mem_cons.1 hx with rfl | hx
    · exact h.1
    · have := incB_gt h.2 x hx
      omega
/-- one growing list within another -/
theorem inc_sub : ∀ (xs ys : List Int), incB xs = true → incB ys = true → (∀ y ∈ ys, y ∈ xs) → ys.length ≤ xs.length ∧ (ys.length = xs.length → ys = xs)
  | xs, [], _, _, _ => ⟨Nat.zero_le _, fun h => (List.eq_nil_of_length_eq_zero (by simpa using h.symm)).symm⟩
  | [], y :: ys, _, _, hs => by have := hs y (List.mem_cons_self ..); cases this
  | x :: xs, y :: ys, hx, hy, hs => by
    have hgx := incB_gt hx
    have hgy := incB_gt hy
    rcases List.mem_cons.1 (hs y (List.mem_cons_self ..)) with e | hy2
    · subst e
      have ih := inc_sub xs ys (incB_tail hx) (incB_tail hy) (fun z hz => by
        rcases List.mem_cons.1 (hs z (List.mem_cons_of_mem _ hz)) with e | h
        · have := hgy z hz; omega
        · exact h)
      simp only [List.length_cons]
      exact ⟨by omega, fun h => by rw [ih.2 (by omega)]⟩
    · have hlt := hgx y hy2
      have ih := inc_sub xs (y :: ys) (incB_tail hx) hy (fun z hz => by
        rcases List.mem_cons.1 (hs z hz) with e | h
        · rcases List.mem_cons.1 hz with e2 | h2
          · omega
          · have := hgy z h2; omega
        · exact h)
      simp only [List.length_cons] at ih ⊢
      exact ⟨by omega, fun h => by omega⟩

theorem incB_range (p : Nat → Bool) : ∀ (m s : Nat), incB (natI ((List.range' s m).filter p)) = true ∧ ∀ x ∈ natI ((List.range' s m).filter p), (s : Int) ≤ x
  | 0, s => ⟨rfl, fun x hx => by simp [natI] at hx⟩
  | m + 1, s => by
    obtain ⟨i1, i2⟩ := incB_range p m (s + 1)
    rw [List.range'_succ, List.filter_cons]
    split
    · refine ⟨?_, fun x hx => ?_⟩
      · show incB ((s : Int) :: natI ((List.range' (s + 1) m).filter p)) = true
        cases h : natI ((List.range' (s + 1) m).filter p) with
        | nil => rfl
        | cons y r =>
          have := i2 y (by rw [h]; exact List.mem_cons_self ..)
          rw [h] at i1
          simp only [incB, Bool.and_eq_true, decide_eq_true_eq]
          exact ⟨by omega, i1⟩
      · rcases List.mem_cons.1 hx with e | hx
        · exact Int.le_of_eq e.symm
        · have := i2 x hx; omega
    · exact ⟨i1, fun x hx => by have := i2 x hx; omega⟩

theorem allB_of (n : Nat) (ws : List Nat) (sh : Int) (l : List Sym) : ∀ (bs : List Bk) (b : Nat), (∀ (j : Nat) k, bs[j]? = some k → chainB n ws sh l (b + j) (-1) k.is = true) → allB n ws sh l b bs = true
  | [], b, _ => rfl
  | k :: r, b, h => by
    simp only [allB, Bool.and_eq_true]
    refine ⟨h 0 k rfl, allB_of n ws sh l r (b + 1) (fun j k' hk => ?_)⟩
    have := h (j + 1) k' hk
    rw [show b + (j + 1) = b + 1 + j by omega] at this
    exact this

/-- growing places that are all good make a chain -/
theorem chain_of (n : Nat) (ws : List Nat) (sh : Int) (l : List Sym) (b : Nat) : ∀ (is : List Int) (la : Int), incB (la :: is) = true → (∀ i ∈ is, ∃ j : Nat, i = j ∧ j ∈ seenI l ∧ hashN (l.getD j sym0).name % n = b ∧ lackT ws sh (hashN (l.getD j sym0).name) = false) → chainB n ws sh l b la is = true
  | [], la, _, _ => rfl
  | i :: r, la, hi, hg => by
    have h1 := incB_gt hi i (List.mem_cons_self ..)
    obtain ⟨j, rfl, hj, hb, hl⟩ := hg i (List.mem_cons_self ..)
    have hjs := List.mem_filter.1 (show j ∈ (List.range l.length).filter _ from hj)
    simp only [chainB, okI, Bool.and_eq_true, decide_eq_true_eq, Bool.not_eq_true', Int.toNat_natCast]
    have hjl := List.mem_range.1 hjs.1
    exact ⟨⟨⟨⟨⟨h1, by omega⟩, hjs.2⟩, hb⟩, hl⟩, chain_of n ws sh l b r j (incB_tail hi) (fun i hi => hg i (List.mem_cons_of_mem _ hi))⟩

theorem cSum_le (l : List Sym) (n : Nat) : ∀ (bs : List Bk) (b : Nat), (∀ (j : Nat) k, bs[j]? = some k → (bkI l n (seenI l) (b + j)).length ≤ k.is.length) →
    cSum l n b bs.length ≤ total bs ∧ (total bs = cSum l n b bs.length → ∀ (j : Nat) k, bs[j]? = some k → (bkI l n (seenI l) (b + j)).length = k.is.length)
  | [], b, _ => ⟨by simp [cSum, total], fun _ j k hk => by cases hk⟩
  | k :: r, b, h => by
    have h0 := h 0 k rfl
    obtain ⟨i1, i2⟩ := cSum_le l n r (b + 1) (fun j k' hk => by
      have := h (j + 1) k' hk
      rw [show b + (j + 1) = b + 1 + j by omega] at this
      exact this)
    have e1 : total (k :: r) = k.is.length + total r := by simp [total]
    have e2 : cSum l n b (r.length + 1) = (bkI l n (seenI l) b).length + cSum l n (b + 1) r.length := by simp [cSum, List.range'_succ]
    rw [e1, List.length_cons, e2]
    refine ⟨by simp at h0; omega, fun he j k' hk => ?_⟩
    cases j with
    | zero =>
      simp only [List.getElem?_cons_zero, Option.some.injEq] at hk
      subst hk
      simp at h0 ⊢
      omega
    | succ j =>
      have := i2 (by simp at h0; omega) j k' hk
      rw [show b + (j + 1) = b + 1 + j by omega]
      exact this

/-- a table is right, by the document -/
def goodI (t : Tb) (l : List Sym) (i : Nat) : Bool := decide ((t.bs.getD (hashN (l.getD i sym0).name % t.bs.length) bk0).is.count (i : Int) = 1) && !lackT t.ws t.sh (hashN (l.getD i sym0).name)
def refR (t : Tb) (l : List Sym) : Bool :=
  decide (l.length ≤ 512) && decide (1 ≤ t.bs.length) && decide (t.bs.length ≤ 512) && rightB t.ws.length t.sh && t.bs.all (fun k => incB k.is) && (seenI l).all (goodI t l) && decide (total t.bs = (seenI l).length)

theorem natI_mem {is : List Nat} {x : Int} : x ∈ natI is ↔ ∃ i ∈ is, (i : Int) = x := by simp [natI]
theorem bkI_inc (l : List Sym) (n b : Nat) : incB (natI (bkI l n (seenI l) b)) = true ∧ ∀ x ∈ natI (bkI l n (seenI l) b), (0 : Int) ≤ x := by
  rw [← bkG_zero]
  exact incB_range _ _ _

theorem refR_bks (t : Tb) (l : List Sym) (h : refR t l = true) : rightT t l = true := by
  simp only [refR, Bool.and_eq_true, decide_eq_true_eq, List.all_eq_true] at h
  obtain ⟨⟨⟨⟨⟨⟨h1, h2⟩, h3⟩, h4⟩, h5⟩, h6⟩, h7⟩ := h
  have hg : ∀ i ∈ seenI l, (i : Int) ∈ (t.bs.getD (hashN (l.getD i sym0).name % t.bs.length) bk0).is ∧ lackT t.ws t.sh (hashN (l.getD i sym0).name) = false := fun i hi => by
    have := h6 i hi
    simp only [goodI, Bool.and_eq_true, decide_eq_true_eq, Bool.not_eq_true'] at this
    exact ⟨List.count_pos_iff.1 (by omega), this.2⟩
  have hsub : ∀ (j : Nat) k, t.bs[j]? = some k → ∀ y ∈ natI (bkI l t.bs.length (seenI l) j), y ∈ k.is := fun j k hk y hy => by
    obtain ⟨i, hi, rfl⟩ := natI_mem.1 hy
    have hf := List.mem_filter.1 hi
    have hb := of_decide_eq_true hf.2
    have := (hg i hf.1).1
    rw [hb, List.getD_eq_getElem?_getD, hk] at this
    exact this
  have hin : ∀ (j : Nat) k, t.bs[j]? = some k → (natI (bkI l t.bs.length (seenI l) j)).length ≤ k.is.length ∧ ((natI (bkI l t.bs.length (seenI l) j)).length = k.is.length → natI (bkI l t.bs.length (seenI l) j) = k.is) := fun j k hk =>
    inc_sub k.is _ (h5 k (List.mem_of_getElem? hk)) (bkI_inc l _ j).1 (hsub j k hk)
  have hc : cSum l t.bs.length 0 t.bs.length = (seenI l).length := by
    unfold cSum
    rw [← List.range_eq_range']
    have := bks_total l (seenI l) t.bs.length t.bs.length
    simp only [natI_len] at this
    rw [this, List.filter_eq_self.2 (fun i _ => decide_eq_true (Nat.mod_lt _ h2))]
  have hle := (cSum_le l t.bs.length t.bs 0 (fun j k hk => by rw [Nat.zero_add]; have := (hin j k hk).1; rw [natI_len] at this; exact this)).2 (by rw [hc, h7])
  have hall : allB t.bs.length t.ws t.sh l 0 t.bs = true := allB_of _ _ _ _ _ _ (fun j k hk => by
    have he := (hin j k hk).2 (by rw [natI_len]; have := hle j k hk; rw [Nat.zero_add] at this; exact this)
    rw [← he, Nat.zero_add]
    refine chain_of _ _ _ _ _ _ _ ?_ (fun i hi => ?_)
    · have hb := bkI_inc l t.bs.length j
      cases hq : natI (bkI l t.bs.length (seenI l) j) with
      | nil => rfl
      | cons y r =>
        rw [hq] at hb
        have := hb.2 y (List.mem_cons_self ..)
        simp only [incB, Bool.and_eq_true, decide_eq_true_eq]
        exact ⟨by omega, hb.1⟩
    · obtain ⟨m, hm, rfl⟩ := natI_mem.1 hi
      have hf := List.mem_filter.1 hm
      exact ⟨m, rfl, hf.1, of_decide_eq_true hf.2, (hg m hf.1).2⟩)
  simp only [rightT, Bool.and_eq_true, decide_eq_true_eq]
  exact ⟨⟨⟨⟨⟨h1, h2⟩, h3⟩, h4⟩, hall⟩, h7⟩

theorem inc_count : ∀ (xs : List Int), incB xs = true → ∀ x ∈ xs, xs.count x = 1
  | [], _, x, hx => by cases hx
  | a :: r, h, x, hx => by
    have hg := incB_gt h
    rw [List.count_cons]
    rcases List.mem_cons.1 hx with rfl | hx
    · have : r.count x = 0 := List.count_eq_zero.2 (fun hm => by have := hg x hm; omega)
      rw [this]; simp
    · have hne : (a == x) = false := beq_eq_false_iff_ne.mpr (by have := hg x hx; omega)
      rw [inc_count r (incB_tail h) x hx, hne]; simp

theorem right_eq (t : Tb) (l : List Sym) : rightT t l = refR t l := by
  cases hr : refR t l with
  | true => exact refR_bks t l hr
  | false =>
    cases ht : rightT t l with
    | false => rfl
    | true =>
      exfalso
      obtain ⟨f1, f2, f3, f4, f5⟩ := right_full t l ht
      have hb : ∀ j, j < t.bs.length → (t.bs.getD j bk0).is = natI (bkI l t.bs.length (seenI l) j) := fun j hj => by
        have h2 := bksI_get l t.bs.length (seenI l) hj
        rw [← f4, List.getElem?_map, List.getElem?_eq_getElem hj] at h2
        rw [List.getD_eq_getElem?_getD, List.getElem?_eq_getElem hj]
        simpa using h2
      simp only [rightT, Bool.and_eq_true, decide_eq_true_eq] at ht
      have : refR t l = true := by
        simp only [refR, Bool.and_eq_true, decide_eq_true_eq, List.all_eq_true]
        refine ⟨⟨⟨⟨⟨⟨f3, f1⟩, f2⟩, ht.1.1.2⟩, fun k hk => ?_⟩, fun i hi => ?_⟩, ht.2⟩
        · obtain ⟨j, hj, rfl⟩ := List.getElem_of_mem hk
          have := hb j hj
          rw [List.getD_eq_getElem?_getD, List.getElem?_eq_getElem hj] at this
          rw [show t.bs[j].is = natI (bkI l t.bs.length (seenI l) j) from this]
          exact (bkI_inc l _ j).1
        · have hj : hashN (l.getD i sym0).name % t.bs.length < t.bs.length := Nat.mod_lt _ f1
          simp only [goodI, Bool.and_eq_true, decide_eq_true_eq, Bool.not_eq_true']
          refine ⟨?_, f5 i hi⟩
          rw [hb _ hj]
          exact inc_count _ (bkI_inc l _ _).1 _ (natI_mem.2 ⟨i, List.mem_filter.2 ⟨hi, decide_eq_true rfl⟩, rfl⟩)
      rw [hr] at this
      cases this

end Go.Proofs.Ytcjmngonpijeiaa
