/- A right table finds the first one that matches: plain Lean. -/
import Derived.Test.YtcjmngonpijeiaaLawLook
namespace Go.Proofs.Ytcjmngonpijeiaa
set_option maxRecDepth 100000
open Go.RowKit Pl
set_option linter.unusedVariables false

/-- the places from s on that are seen, in a bucket -/
def bkG (l : List Sym) (n b s : Nat) : List Nat := (List.range' s (l.length - s)).filter fun i => seenB (l.getD i sym0) && decide (hashN (l.getD i sym0).name % n = b)

theorem bkG_zero (l : List Sym) (n b : Nat) : bkG l n b 0 = bkI l n (seenI l) b := by
  unfold bkG bkI seenI seenK
  rw [List.filter_filter, List.range_eq_range']
  apply List.filter_congr
  intro i _
  rw [Bool.and_comm]

theorem bkG_split (l : List Sym) (n b s j : Nat) (hs : s ≤ j) (hj : j < l.length) (hp : (seenB (l.getD j sym0) && decide (hashN (l.getD j sym0).name % n = b)) = true) :
    ∃ pre, bkG l n b s = pre ++ j :: bkG l n b (j + 1) := by
  refine ⟨(List.range' s (j - s)).filter fun i => seenB (l.getD i sym0) && decide (hashN (l.getD i sym0).name % n = b), ?_⟩
  unfold bkG
  have e : List.range' s (l.length - s) = List.range' s (j - s) ++ j :: List.range' (j + 1) (l.length - (j + 1)) := by
    have h1 : List.range' s (l.length - s) = List.range' s (j - s) ++ List.range' j (l.length - j) := by
      have := List.range'_append_1 (s := s) (m := j - s) (n := l.length - j)
      rw [show s + (j - s) = j by omega, show (j - s) + (l.length - j) = l.length - s by omega] at this
      exact this.symm
    rw [h1]
    congr 1
    rw [show l.length - j = (l.length - (j + 1)) + 1 by omega, List.range'_succ]
  rw [e, List.filter_append, List.filter_cons, if_pos hp]

theorem chain_full (n : Nat) (ws : List Nat) (sh : Int) (l : List Sym) (b : Nat) : ∀ (is : List Int) (s : Nat), chainB n ws sh l b ((s : Int) - 1) is = true →
    is.length ≤ (bkG l n b s).length ∧ (is.length = (bkG l n b s).length → is = natI (bkG l n b s))
  | [], s, _ => ⟨Nat.zero_le _, fun h => by
      have : bkG l n b s = [] := List.eq_nil_of_length_eq_zero (by simpa using h.symm)
      rw [this]; rfl⟩
  | i :: r, s, h => by
    simp only [chainB, Bool.and_eq_true] at h
    obtain ⟨hok, hr⟩ := h
    simp only [okI, Bool.and_eq_true, decide_eq_true_eq, Bool.not_eq_true'] at hok
    obtain ⟨⟨⟨⟨o1, o2⟩, o3⟩, o4⟩, o5⟩ := hok
    obtain ⟨j, rfl⟩ := Int.eq_ofNat_of_zero_le (by omega : 0 ≤ i)
    rw [Int.toNat_natCast] at o3 o4 o5
    obtain ⟨pre, hpre⟩ := bkG_split l n b s j (by omega) (by omega) (by rw [o3, decide_eq_true o4]; rfl)
    have ih := chain_full n ws sh l b r (j + 1) (by rw [show ((j + 1 : Nat) : Int) - 1 = j by omega]; exact hr)
    rw [hpre]
    simp only [List.length_append, List.length_cons]
    refine ⟨by omega, fun he => ?_⟩
    have hp0 : pre = [] := List.eq_nil_of_length_eq_zero (by omega)
    subst hp0
    rw [ih.2 (by simp at he; omega)]
    simp [natI]

theorem chain_mem (n : Nat) (ws : List Nat) (sh : Int) (l : List Sym) (b : Nat) : ∀ (is : List Int) (la : Int), chainB n ws sh l b la is = true → ∀ i ∈ is, lackT ws sh (hashN (l.getD i.toNat sym0).name) = false
  | [], _, _, i, hi => by cases hi
  | x :: r, la, h, i, hi => by
    simp only [chainB, Bool.and_eq_true] at h
    rcases List.mem_cons.1 hi with rfl | hi
    · have := h.1
      simp only [okI, Bool.and_eq_true, Bool.not_eq_true'] at this
      exact this.2
    · exact chain_mem n ws sh l b r x h.2 i hi

def cSum (l : List Sym) (n b m : Nat) : Nat := ((List.range' b m).map fun j => (bkI l n (seenI l) j).length).sum
theorem all_full (n : Nat) (ws : List Nat) (sh : Int) (l : List Sym) : ∀ (bs : List Bk) (b : Nat), allB n ws sh l b bs = true →
    total bs ≤ cSum l n b bs.length ∧ (total bs = cSum l n b bs.length → bs.map Bk.is = (List.range' b bs.length).map fun j => natI (bkI l n (seenI l) j)) ∧
    (∀ k ∈ bs, ∀ i ∈ k.is, lackT ws sh (hashN (l.getD i.toNat sym0).name) = false)
  | [], b, _ => ⟨by simp [total, cSum], fun _ => rfl, fun k hk => by cases hk⟩
  | k :: r, b, h => by
    simp only [allB, Bool.and_eq_true] at h
    have h1 := chain_full n ws sh l b k.is 0 (by simpa using h.1)
    rw [bkG_zero] at h1
    obtain ⟨i1, i2, i3⟩ := all_full n ws sh l r (b + 1) h.2
    have e1 : total (k :: r) = k.is.length + total r := by simp [total]
    have e2 : cSum l n b (r.length + 1) = (bkI l n (seenI l) b).length + cSum l n (b + 1) r.length := by simp [cSum, List.range'_succ]
    refine ⟨by rw [e1, List.length_cons, e2]; omega, fun he => ?_, fun k' hk' => ?_⟩
    · rw [e1, List.length_cons, e2] at he
      rw [List.map_cons, List.length_cons, List.range'_succ, List.map_cons, h1.2 (by omega), i2 (by omega)]
    · rcases List.mem_cons.1 hk' with rfl | hk'
      · exact chain_mem n ws sh l b k'.is _ h.1
      · exact i3 k' hk'

theorem right_full (t : Tb) (l : List Sym) (h : rightT t l = true) :
    1 ≤ t.bs.length ∧ t.bs.length ≤ 512 ∧ l.length ≤ 512 ∧ t.bs.map Bk.is = bksI l t.bs.length (seenI l) ∧ ∀ i ∈ seenI l, lackT t.ws t.sh (hashN (l.getD i sym0).name) = false := by
  simp only [rightT, Bool.and_eq_true, decide_eq_true_eq] at h
  obtain ⟨⟨⟨⟨⟨h1, h2⟩, h3⟩, _⟩, h5⟩, h6⟩ := h
  obtain ⟨_, a2, a3⟩ := all_full t.bs.length t.ws t.sh l t.bs 0 h5
  have hc : cSum l t.bs.length 0 t.bs.length = (seenI l).length := by
    unfold cSum
    rw [← List.range_eq_range']
    have := bks_total l (seenI l) t.bs.length t.bs.length
    simp only [natI_len] at this
    rw [this, List.filter_eq_self.2 (fun i _ => decide_eq_true (Nat.mod_lt _ h2))]
  have hm := a2 (by rw [hc, h6])
  rw [← List.range_eq_range'] at hm
  refine ⟨h2, h3, h1, hm, fun i hi => ?_⟩
  have hb : hashN (l.getD i sym0).name % t.bs.length < t.bs.length := Nat.mod_lt _ h2
  have hg : t.bs.map Bk.is = bksI l t.bs.length (seenI l) := hm
  have hget := bksI_get l t.bs.length (seenI l) hb
  rw [← hg, List.getElem?_map, List.getElem?_eq_getElem hb] at hget
  simp only [Option.map_some, Option.some.injEq] at hget
  have := a3 _ (List.getElem_mem hb) (i : Int) (by
    rw [hget]
    exact List.mem_map.2 ⟨i, List.mem_filter.2 ⟨hi, decide_eq_true rfl⟩, rfl⟩)
  rw [Int.toNat_natCast] at this
  exact this

/-- the first one that matches -/
def firstP (r : Sym) (l : List Sym) : Int := match (List.range l.length).find? fun k => matchB r (l.getD k sym0) (verB l) with | some k => (k : Int) | none => -1

theorem findL_find (r : Sym) (l : List Sym) (ver : Bool) : ∀ (xs : List Nat) (m : Nat), (∀ x ∈ xs, x < l.length) →
    (findL r l ver (natI xs) m).1 = (match xs.find? fun k => matchB r (l.getD k sym0) ver with | some k => (k : Int) | none => -1) ∧ (0 ≤ (findL r l ver (natI xs) m).1 → m + 1 ≤ (findL r l ver (natI xs) m).2)
  | [], m, _ => ⟨rfl, fun h => by simp [natI, findL] at h⟩
  | x :: xs, m, h => by
    have hx := h x (List.mem_cons_self ..)
    have ih := findL_find r l ver xs (m + 1) (fun y hy => h y (List.mem_cons_of_mem _ hy))
    have e : natI (x :: xs) = (x : Int) :: natI xs := rfl
    rw [e]
    simp only [findL]
    rw [if_neg (by omega : ¬ ((x : Int) < 0 ∨ (l.length : Int) ≤ x)), Int.toNat_natCast, List.find?_cons]
    cases hm : matchB r (l.getD x sym0) ver
    · rw [if_neg (by simp)]
      exact ⟨ih.1, fun h => by have := ih.2 h; omega⟩
    · rw [if_pos rfl]
      exact ⟨rfl, fun _ => Nat.le_refl _⟩

theorem match_seen {r d : Sym} {ver : Bool} (h : matchB r d ver = true) : seenB d = true ∧ r.name = d.name := by
  simp only [matchB, Bool.and_eq_true, decide_eq_true_eq] at h
  exact ⟨h.1.1, h.1.2⟩

theorem find_first (t : Tb) (r : Sym) (l : List Sym) (h2 : 1 ≤ t.bs.length) (h1 : t.bs.map Bk.is = bksI l t.bs.length (seenI l)) (hk : ∀ i ∈ seenI l, lackT t.ws t.sh (hashN (l.getD i sym0).name) = false) :
    (findP t r l).1 = firstP r l ∧ (0 ≤ (findP t r l).1 → 1 ≤ (findP t r l).2) := by
  have e : findP t r l = if t.bs.length = 0 ∨ lackT t.ws t.sh (hashN r.name) = true then (-1, 0) else findL r l (verB l) (t.bs.getD (hashN r.name % t.bs.length) bk0).is 0 := rfl
  have hms : ∀ k, k < l.length → matchB r (l.getD k sym0) (verB l) = true → k ∈ seenI l := fun k hk hm => by
    unfold seenI seenK
    exact List.mem_filter.2 ⟨List.mem_range.2 hk, (match_seen hm).1⟩
  by_cases hl : lackT t.ws t.sh (hashN r.name) = true
  · rw [e, if_pos (.inr hl)]
    refine ⟨?_, fun h => by simp at h⟩
    unfold firstP
    cases hf : (List.range l.length).find? fun k => matchB r (l.getD k sym0) (verB l) with
    | none => rfl
    | some k =>
      have hm := List.find?_some hf
      have hkl := List.mem_range.1 (List.mem_of_find?_eq_some hf)
      have := hk k (hms k hkl hm)
      rw [← (match_seen hm).2, hl] at this
      cases this
  · rw [e, if_neg (by rintro (h | h); omega; exact hl h)]
    have hb : hashN r.name % t.bs.length < t.bs.length := Nat.mod_lt _ h2
    have hget := bksI_get l t.bs.length (seenI l) hb
    rw [← h1, List.getElem?_map, List.getElem?_eq_getElem hb] at hget
    simp only [Option.map_some, Option.some.injEq] at hget
    rw [List.getD_eq_getElem?_getD, List.getElem?_eq_getElem hb, Option.getD_some, hget]
    obtain ⟨q1, q2⟩ := findL_find r l (verB l) (bkI l t.bs.length (seenI l) (hashN r.name % t.bs.length)) 0 (fun x hx => seenK_lt l l.length x (List.mem_filter.1 hx).1)
    refine ⟨?_, fun h => by have := q2 h; omega⟩
    rw [q1]
    unfold firstP bkI seenI seenK
    rw [List.find?_filter, List.find?_filter]
    congr 2
    funext k
    by_cases hm : matchB r (l.getD k sym0) (verB l) = true
    · have := match_seen hm
      simp only [hm, this.1, ← this.2, decide_true, and_self]
    · rw [Bool.not_eq_true] at hm
      rw [hm]
      simp

end Go.Proofs.Ytcjmngonpijeiaa
