/- Symbols, in plain Lean. -/
import Derived.Test.YtcjmngonpijeiaaOpT
import Derived.Test.YtcjmngonpijeiaaSieveP
import Derived.Test.YtcjmngonpijeiaaPlain
namespace Go.Proofs.Ytcjmngonpijeiaa
set_option maxRecDepth 100000
open Go.RowKit Pl
set_option linter.unusedVariables false

def seenB (s : Sym) : Bool := s.defd && s.vis != 2
/-- does a definition match -/
def matchB (r d : Sym) (ver : Bool) : Bool := seenB d && decide (r.name = d.name) && (if r.ver.size = 0 then !d.old else (decide (r.ver = d.ver) || !ver))
/-- has some definition a version -/
def verB (l : List Sym) : Bool := l.any fun s => s.defd && decide (s.ver.size ≠ 0)
def hashN (s : ByteArray) : Nat := (hmore 5381 s.data.toList).toNat
def Tb.lacks (t : Tb) (h : Nat) : Bool := rightB t.ws.length t.sh && lacksB t.sh.toNat t.ws h
/-- along a bucket -/
def findL (r : Sym) (l : List Sym) (ver : Bool) : List Int → Nat → Int × Nat
  | [], n => (-1, n)
  | i :: is, n => if i < 0 ∨ (l.length : Int) ≤ i then findL r l ver is n else if matchB r (l.getD i.toNat sym0) ver then (i, n + 1) else findL r l ver is (n + 1)
def findP (t : Tb) (r : Sym) (l : List Sym) : Int × Nat :=
  if t.bs.length = 0 ∨ t.lacks (hashN r.name) = true then (-1, 0) else findL r l (verB l) (t.bs.getD (hashN r.name % t.bs.length) bk0).is 0

theorem hash_lt (s : ByteArray) : (hashN s : Int) = hmore 5381 s.data.toList ∧ hashN s < 4294967296 := by
  have := hmore_bd 5381 s.data.toList (by omega) (by omega)
  unfold hashN
  omega

end Go.Proofs.Ytcjmngonpijeiaa
