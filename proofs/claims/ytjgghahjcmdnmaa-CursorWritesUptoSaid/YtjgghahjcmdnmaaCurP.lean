/- Plain facts of the cursor: what is put, and what is taken. -/
import Derived.IntWalk
namespace Go.Proofs.Ytjgghahjcmdnmaa.Pl

def sizedB (size : Int) : Bool := size == 1 || size == 2 || size == 4 || size == 8

/-- the greatest number and one, of a size -/
def fitsB (n size : Int) : Bool := size == 8 || (decide (0 ≤ n) && decide (n < 2 ^ (8 * size).toNat))

/-- a number's byte -/
def dig (n : Int) (i : Nat) : UInt8 := UInt8.ofNat (n / 2 ^ (8 * i) % 256).toNat

def digs (k : Nat) (n : Int) : List UInt8 := (List.range k).map (dig n)

theorem digs_length (k : Nat) (n : Int) : (digs k n).length = k := by simp [digs]
theorem digs_succ (k : Nat) (n : Int) : digs (k + 1) n = digs k n ++ [dig n k] := by simp [digs, List.range_succ]

theorem dig_wrap (n : Int) (i : Nat) : IntKind.u8.wrap (n / 2 ^ (8 * i)) = ((dig n i).toNat : Int) := by
  rw [IntKind.wrap_u8]
  unfold dig
  have h0 : 0 ≤ n / 2 ^ (8 * i) % 256 := Int.emod_nonneg _ (by omega)
  have h1 : n / 2 ^ (8 * i) % 256 < 256 := Int.emod_lt_of_pos _ (by omega)
  rw [UInt8.toNat_ofNat', Nat.mod_eq_of_lt (by omega)]
  omega

/-- a writer's state: the first error, the bytes -/
abbrev WS := Int × List UInt8

def wfail (st : WS) (e : Int) : WS := if st.1 = 0 then (e, st.2) else st
def wraw (st : WS) (bs : List UInt8) : WS := if st.1 = 0 then (st.1, st.2 ++ bs) else st
def wnum1 (size : Int) (st : WS) (n : Int) : WS := if st.1 = 0 then (if fitsB n size then (0, st.2 ++ digs size.toNat n) else (10, st.2)) else st
def wnum (size : Int) (st : WS) (ns : List Int) : WS := ns.foldl (wnum1 size) (if sizedB size then st else wfail st 1)
def wtext1 (st : WS) (s : List UInt8) : WS := if st.1 = 0 then (if s.length ≤ 4096 then (0, st.2 ++ (digs 2 s.length ++ s)) else (2, st.2)) else st
def wtext (st : WS) (ss : List (List UInt8)) : WS := ss.foldl wtext1 st
def wblock (st : WS) (b : List UInt8) : WS := if st.1 = 0 then (if b.length ≤ 1048576 then (0, st.2 ++ (digs 4 b.length ++ b)) else (2, st.2)) else st

theorem sizedB_cases {size : Int} (h : sizedB size = true) : size = 1 ∨ size = 2 ∨ size = 4 ∨ size = 8 := by
  simp [sizedB] at h; omega
theorem sizedB_not {size : Int} (h : sizedB size = false) : size ≠ 1 ∧ size ≠ 2 ∧ size ≠ 4 ∧ size ≠ 8 := by
  simp [sizedB] at h; omega

end Go.Proofs.Ytjgghahjcmdnmaa.Pl
