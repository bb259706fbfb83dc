/- Plain facts of the sieve: filters as lists of numbers. -/
import Derived.Laws.Bits64b
import Derived.IntWalk
namespace Go.Proofs.Ytcjmngonpijeiaa.Pl
set_option maxRecDepth 100000

/-- may a filter have so many words -/
def wordsB (n : Int) : Bool := n == 1 || n == 2 || n == 4 || n == 8 || n == 16 || n == 32 || n == 64

/-- is a filter right -/
def rightB (n sh : Int) : Bool := wordsB n && decide (1 ≤ sh) && decide (sh ≤ 31)

/-- the bits of a hash -/
def mbits (sh h : Nat) : Nat := 2 ^ (h % 64) ||| 2 ^ ((h / 2 ^ sh) % 64)

/-- one hash put -/
def put1 (sh : Nat) (ws : List Nat) (h : Nat) : List Nat :=
  ws.set (h / 64 % ws.length) (ws.getD (h / 64 % ws.length) 0 ||| mbits sh h)

def putAll (sh : Nat) (ws : List Nat) (hs : List Nat) : List Nat := hs.foldl (put1 sh) ws

/-- does a filter lack a hash -/
def lacksB (sh : Nat) (ws : List Nat) (h : Nat) : Bool :=
  ws.getD (h / 64 % ws.length) 0 &&& mbits sh h != mbits sh h

theorem bits_and_i64_nat (a b : Nat) (ha : a < 9223372036854775808) (hb : b < 9223372036854775808) :
    bits .and .i64 (a : Int) (b : Int) = ((a &&& b : Nat) : Int) := by
  have hx : a &&& b < 2 ^ 63 := Nat.and_lt_two_pow _ (by omega)
  have h1 : (BitVec.ofInt 64 (a : Int)).toNat = a := by
    rw [BitVec.ofInt_natCast, BitVec.toNat_ofNat]; exact Nat.mod_eq_of_lt (by omega)
  have h2 : (BitVec.ofInt 64 (b : Int)).toNat = b := by
    rw [BitVec.ofInt_natCast, BitVec.toNat_ofNat]; exact Nat.mod_eq_of_lt (by omega)
  show IntKind.i64.wrap ((BitVec.ofInt 64 (a : Int) &&& BitVec.ofInt 64 (b : Int)).toNat : Int) = _
  rw [BitVec.toNat_and, h1, h2, IntWalk.i64_in]
  omega

theorem bits_and_i64_small : ∀ n : Nat, n < 65 → 1 ≤ n → bits .and .i64 (n : Int) ((n : Int) - 1) = ((n &&& (n - 1) : Nat) : Int) := by
  decide

theorem and_pred_words : ∀ n : Nat, n < 65 → 1 ≤ n → (((n &&& (n - 1) : Nat) : Int) != 0) = !wordsB n := by
  decide

theorem words_and {n : Int} (h0 : 1 ≤ n) (h1 : n ≤ 64) : (bits .and .i64 n (n - 1) != 0) = !wordsB n := by
  obtain ⟨k, rfl⟩ := Int.eq_ofNat_of_zero_le (by omega : 0 ≤ n)
  rw [bits_and_i64_small k (by omega) (by omega), and_pred_words k (by omega) (by omega)]

theorem wordsB_cases {n : Int} (h : wordsB n = true) : n = 1 ∨ n = 2 ∨ n = 4 ∨ n = 8 ∨ n = 16 ∨ n = 32 ∨ n = 64 := by
  simp [wordsB] at h; omega

theorem wordsB_pow {n : Nat} (h : wordsB n = true) : ∃ k, k ≤ 6 ∧ n = 2 ^ k := by
  rcases wordsB_cases h with h | h | h | h | h | h | h
  · exact ⟨0, by omega, by omega⟩
  · exact ⟨1, by omega, by omega⟩
  · exact ⟨2, by omega, by omega⟩
  · exact ⟨3, by omega, by omega⟩
  · exact ⟨4, by omega, by omega⟩
  · exact ⟨5, by omega, by omega⟩
  · exact ⟨6, by omega, by omega⟩

theorem rightB_parts {n sh : Int} (h : rightB n sh = true) : wordsB n = true ∧ 1 ≤ sh ∧ sh ≤ 31 := by
  simp only [rightB, Bool.and_eq_true, decide_eq_true_eq] at h
  exact ⟨h.1.1, h.1.2, h.2⟩

theorem rightB_bd {n sh : Int} (h : rightB n sh = true) : 1 ≤ n ∧ n ≤ 64 ∧ 1 ≤ sh ∧ sh ≤ 31 := by
  have h' := rightB_parts h
  have := wordsB_cases h'.1
  omega

theorem put1_length (sh : Nat) (ws : List Nat) (h : Nat) : (put1 sh ws h).length = ws.length := by simp [put1]

theorem putAll_length (sh : Nat) (hs : List Nat) : ∀ ws : List Nat, (putAll sh ws hs).length = ws.length := by
  unfold putAll
  induction hs with
  | nil => intro ws; rfl
  | cons h hs ih => intro ws; rw [List.foldl_cons, ih, put1_length]

theorem getD_mem {α : Type} {d : α} {l : List α} {i : Nat} (h : i < l.length) : l.getD i d ∈ l := by
  rw [List.getD_eq_getElem?_getD, List.getElem?_eq_getElem h]; exact List.getElem_mem _

theorem take_snocL (l : List Nat) (k : Nat) (h : k < l.length) : l.take (k + 1) = l.take k ++ [l.getD k 0] := by
  rw [List.take_succ_eq_append_getElem h, List.getD_eq_getElem?_getD, List.getElem?_eq_getElem h]; rfl

theorem putAll_snoc (sh : Nat) (ws hs : List Nat) (h : Nat) : putAll sh ws (hs ++ [h]) = put1 sh (putAll sh ws hs) h := by
  unfold putAll; rw [List.foldl_append]; rfl

theorem mbits_lt (sh h : Nat) : mbits sh h < 18446744073709551616 := by
  unfold mbits
  exact Nat.or_lt_two_pow (n := 64) (Nat.pow_lt_pow_right (by omega) (Nat.mod_lt _ (by omega))) (Nat.pow_lt_pow_right (by omega) (Nat.mod_lt _ (by omega)))

theorem put1_lt (sh : Nat) (ws : List Nat) (h : Nat) (hw : ∀ x ∈ ws, x < 18446744073709551616) : ∀ x ∈ put1 sh ws h, x < 18446744073709551616 := by
  intro x hx
  unfold put1 at hx
  rcases List.mem_or_eq_of_mem_set hx with hx | rfl
  · exact hw x hx
  · refine Nat.or_lt_two_pow (n := 64) ?_ (mbits_lt sh h)
    rcases Nat.lt_or_ge (h / 64 % ws.length) ws.length with hl | hl
    · exact hw _ (getD_mem hl)
    · rw [List.getD_eq_getElem?_getD, List.getElem?_eq_none hl]; simp

theorem putAll_lt (sh : Nat) (hs : List Nat) : ∀ ws : List Nat, (∀ x ∈ ws, x < 18446744073709551616) → ∀ x ∈ putAll sh ws hs, x < 18446744073709551616 := by
  unfold putAll
  induction hs with
  | nil => intro ws h; exact h
  | cons h hs ih => intro ws hw; rw [List.foldl_cons]; exact ih _ (put1_lt sh ws h hw)

end Go.Proofs.Ytcjmngonpijeiaa.Pl
