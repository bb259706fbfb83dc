/- A table that is made, in plain Lean. -/
import Derived.Test.YtcjmngonpijeiaaSymV
namespace Go.Proofs.Ytcjmngonpijeiaa
set_option maxRecDepth 100000
open Go.RowKit Pl
set_option linter.unusedVariables false

/-- the places of those that are seen, of the first k -/
def seenK (l : List Sym) (k : Nat) : List Nat := (List.range k).filter fun i => seenB (l.getD i sym0)
def seenI (l : List Sym) : List Nat := seenK l l.length
/-- their hashes -/
def hashL (l : List Sym) (is : List Nat) : List Nat := is.map fun i => hashN (l.getD i sym0).name
/-- how many buckets -/
def cntN (n : Nat) : Nat := if n ≤ 4 then 1 else (n + 3) / 4
/-- how many words -/
def wideN (n : Nat) : Nat := if n ≤ 8 then 1 else if n ≤ 16 then 2 else if n ≤ 32 then 4 else if n ≤ 64 then 8 else if n ≤ 128 then 16 else if n ≤ 256 then 32 else 64
/-- numbers as places -/
def natI (is : List Nat) : List Int := is.map fun i : Nat => (i : Int)
/-- a bucket, of some of the places -/
def bkI (l : List Sym) (many : Nat) (is : List Nat) (b : Nat) : List Nat := is.filter fun i => decide (hashN (l.getD i sym0).name % many = b)

theorem seenK_succ (l : List Sym) (k : Nat) : seenK l (k + 1) = seenK l k ++ if seenB (l.getD k sym0) then [k] else [] := by
  unfold seenK
  rw [List.range_succ, List.filter_append]
  congr 1
  simp [List.filter_cons]
theorem seenK_len (l : List Sym) (k : Nat) : (seenK l k).length ≤ k := by
  unfold seenK
  refine Nat.le_trans (List.length_filter_le _ _) ?_
  simp
theorem seenK_lt (l : List Sym) (k : Nat) : ∀ i ∈ seenK l k, i < k := by
  intro i hi
  unfold seenK at hi
  have := (List.mem_filter.1 hi).1
  simpa using this
theorem hashL_append (l : List Sym) (a b : List Nat) : hashL l (a ++ b) = hashL l a ++ hashL l b := by simp [hashL]
theorem hashL_len (l : List Sym) (a : List Nat) : (hashL l a).length = a.length := by simp [hashL]
theorem hashL_lt (l : List Sym) (a : List Nat) : ∀ h ∈ hashL l a, h < 4294967296 := by
  intro h hh
  obtain ⟨i, _, rfl⟩ := List.mem_map.1 hh
  exact (hash_lt _).2
theorem natI_append (a b : List Nat) : natI (a ++ b) = natI a ++ natI b := by simp [natI]
theorem natI_len (a : List Nat) : (natI a).length = a.length := by simp [natI]
theorem ints_append (a b : List Int) : ints (a ++ b) = ints a ++ ints b := by simp [ints]
theorem ints_len (a : List Int) : (ints a).length = a.length := by simp [ints]
theorem bkI_append (l : List Sym) (many : Nat) (a b : List Nat) (j : Nat) : bkI l many (a ++ b) j = bkI l many a j ++ bkI l many b j := by simp [bkI]
theorem bkI_len (l : List Sym) (many : Nat) (a : List Nat) (j : Nat) : (bkI l many a j).length ≤ a.length := List.length_filter_le _ _
theorem cntN_pos (n : Nat) : 1 ≤ cntN n := by unfold cntN; split <;> omega
theorem cntN_le (n : Nat) : cntN n ≤ n + 1 := by unfold cntN; split <;> omega
theorem wideN_words (n : Nat) : rightB (wideN n : Nat) (6 : Nat) = true ∧ 1 ≤ wideN n ∧ wideN n ≤ 64 := by
  unfold wideN
  split; exact ⟨by decide, by omega, by omega⟩
  split; exact ⟨by decide, by omega, by omega⟩
  split; exact ⟨by decide, by omega, by omega⟩
  split; exact ⟨by decide, by omega, by omega⟩
  split; exact ⟨by decide, by omega, by omega⟩
  split; exact ⟨by decide, by omega, by omega⟩
  exact ⟨by decide, by omega, by omega⟩

end Go.Proofs.Ytcjmngonpijeiaa
