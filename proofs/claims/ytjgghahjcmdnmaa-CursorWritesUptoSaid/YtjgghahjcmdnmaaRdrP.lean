/- Plain facts of a reader: the number of some bytes. -/
import Derived.Test.YtjgghahjcmdnmaaCurP
namespace Go.Proofs.Ytjgghahjcmdnmaa.Pl

/-- the number of some bytes, the lowest first -/
def leNat : List UInt8 → Nat
  | [] => 0
  | b :: r => b.toNat + 256 * leNat r

theorem leNat_lt : ∀ l : List UInt8, leNat l < 2 ^ (8 * l.length)
  | [] => by simp [leNat]
  | b :: r => by
    have h1 := leNat_lt r
    have h2 : b.toNat < 256 := b.toNat_lt
    have h3 : 2 ^ (8 * (b :: r).length) = 256 * 2 ^ (8 * r.length) := by rw [List.length_cons, Nat.mul_succ, Nat.add_comm, Nat.pow_add]
    rw [h3]
    unfold leNat
    omega

theorem leNat_snoc : ∀ (l : List UInt8) (b : UInt8), leNat (l ++ [b]) = leNat l + b.toNat * 2 ^ (8 * l.length)
  | [], b => by simp [leNat]
  | a :: r, b => by
    have h1 := leNat_snoc r b
    have h3 : 2 ^ (8 * (a :: r).length) = 256 * 2 ^ (8 * r.length) := by rw [List.length_cons, Nat.mul_succ, Nat.add_comm, Nat.pow_add]
    rw [h3]
    simp only [List.cons_append, leNat, h1]
    rw [Nat.mul_add, Nat.add_assoc, Nat.mul_left_comm b.toNat]

def i64 (n : Nat) : Int := IntKind.i64.wrap (n : Int)

theorem ofInt_wrap64 (z : Int) : BitVec.ofInt 64 (IntKind.i64.wrap z) = BitVec.ofInt 64 z := by
  apply BitVec.eq_of_toNat_eq
  rw [BitVec.toNat_ofInt, BitVec.toNat_ofInt]
  congr 1
  rw [IntKind.wrap_i64]
  omega

theorem or_byte (N x i : Nat) (hi : i ≤ 7) (hN : N < 2 ^ (8 * i)) (hx : x < 256) :
    IntKind.i64.wrap (((BitVec.ofInt 64 (i64 N)) ||| (BitVec.ofInt 64 (IntKind.i64.wrap ((x : Int) * 2 ^ (8 * i))))).toNat : Int) = i64 (N + x * 2 ^ (8 * i)) := by
  unfold i64
  rw [ofInt_wrap64, ofInt_wrap64]
  have h1 : (x : Int) * 2 ^ (8 * i) = ((x * 2 ^ (8 * i) : Nat) : Int) := by push_cast; rfl
  rw [h1, BitVec.ofInt_natCast, BitVec.ofInt_natCast, BitVec.toNat_or, BitVec.toNat_ofNat, BitVec.toNat_ofNat]
  have hp : 2 ^ (8 * i) ≤ 2 ^ 56 := Nat.pow_le_pow_right (by omega) (by omega)
  have hX : x * 2 ^ (8 * i) < 2 ^ 64 := by
    have : x * 2 ^ (8 * i) ≤ 255 * 2 ^ 56 := Nat.mul_le_mul (by omega) hp
    omega
  rw [Nat.mod_eq_of_lt (by omega), Nat.mod_eq_of_lt hX]
  have := Nat.two_pow_add_eq_or_of_lt hN x
  rw [Nat.or_comm, Nat.mul_comm x, ← this, Nat.add_comm]

/-- a reader's number -/
def rcut (st : WS) (n : Nat) : List UInt8 × WS := if st.1 = 0 then (if n ≤ st.2.length then (st.2.take n, (0, st.2.drop n)) else ([], (11, st.2))) else ([], st)
def rnum (size : Int) (st : WS) : Int × WS := if sizedB size then (i64 (leNat (rcut st size.toNat).1), (rcut st size.toNat).2) else (0, wfail st 1)
def rpart (z most : Nat) (st : WS) : List UInt8 × WS :=
  let r := rnum z st
  let s2 := if r.1 ≤ most then r.2 else wfail r.2 2
  let c := rcut s2 r.1.toNat
  (c.1, if c.2.1 = 0 then c.2 else (c.2.1, st.2))
def rraw (n : Int) (st : WS) : List UInt8 × WS := if n < 0 then ([], wfail st 1) else rcut st n.toNat
def rend (st : WS) : Int := if st.1 = 0 ∧ st.2 ≠ [] then 12 else st.1

end Go.Proofs.Ytjgghahjcmdnmaa.Pl
