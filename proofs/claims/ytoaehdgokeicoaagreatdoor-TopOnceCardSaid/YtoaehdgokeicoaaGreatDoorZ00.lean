/- TopOnce: part 0 of the proof. -/
import Derived.Below
import Derived.Test.YtoaehdgokeicoaaGreatDoorA0
set_option maxRecDepth 100000
set_option maxHeartbeats 30000000
set_option linter.all false
namespace Go.Proofs.YtoaehdgokeicoaaGreatDoor
section
inductive K9 where
 |eE (x:Int)
 |fw (b:Nat)
 |fN (b n c:Nat)
 |eJ (b o:Nat)
 |eW
 |eV (s:ByteArray)
 |fz (b:Bool)
 |fH (v:Value)
 |ij (a:Array Value)
 |fV (a:Array Value)
open K9
instance (x:Int):CoeDep K9 (eE x) Value:=⟨.int .i64 x⟩
instance (b:Nat):CoeDep K9 (fw b) Value:=⟨.pointer (some ⟨b,0,none⟩)⟩
instance (b n c:Nat):CoeDep K9 (fN b n c) Value:=⟨.slice (some ⟨b,0,none⟩) n c⟩
instance (b o:Nat):CoeDep K9 (eJ b o) Addr:=⟨⟨b,o,none⟩⟩
instance:CoeDep K9 eW Value:=⟨.slice none 0 0⟩
instance (s:ByteArray):CoeDep K9 (eV s) Value:=⟨.string s⟩
instance (b:Bool):CoeDep K9 (fz b) Value:=⟨.bool b⟩
instance (v:Value):CoeDep K9 (fH v) Ending:=⟨.returned v⟩
instance (a:Array Value):CoeDep K9 (ij a) Value:=⟨.tuple a⟩
instance (a:Array Value):CoeDep K9 (fV a) Value:=⟨.agg a⟩
instance (x:Int):CoeDep (Option K9) (some (eE x)) (Option Value):=⟨some (.int .i64 x)⟩
instance (b:Nat):CoeDep (Option K9) (some (fw b)) (Option Value):=⟨some (.pointer (some ⟨b,0,none⟩))⟩
instance (b n c:Nat):CoeDep (Option K9) (some (fN b n c)) (Option Value):=⟨some (.slice (some ⟨b,0,none⟩) n c)⟩
instance (b o:Nat):CoeDep (Option K9) (some (eJ b o)) (Option Addr):=⟨some ⟨b,o,none⟩⟩
instance:CoeDep (Option K9) (some eW) (Option Value):=⟨some (.slice none 0 0)⟩
instance (s:ByteArray):CoeDep (Option K9) (some (eV s)) (Option Value):=⟨some (.string s)⟩
instance (b:Bool):CoeDep (Option K9) (some (fz b)) (Option Value):=⟨some (.bool b)⟩
instance (a:Array Value):CoeDep (Option K9) (some (fV a)) (Option Value):=⟨some (.agg a)⟩
instance (w:World):CoeDep World w Nat:=⟨w.heap.size⟩
abbrev fE := Option Addr
abbrev fe := List Nat
abbrev fY := List Value
abbrev fS := List Int
abbrev kx := Array Value
abbrev gh := List UInt8
abbrev mB := List TypeId
abbrev eI := World
abbrev eS := Value
abbrev ik := TypeId
abbrev jw := ByteArray
end
section
inductive Z9 where
 |m7
 |jf
 |nJ
 |tw
 |rp
 |j3
 |rf
 |BX
 |BY
 |Uh
 |Vy
 |SS
 |SU
 |Ma
 |Qd
 |Qe
 |Qf
 |Ui
 |eN (a:Array Value) (t:TypeId)
open Z9
instance:CoeDep Z9 m7 (Array Value):=⟨#[.int .i64 0,.int .i64 0,.int .i64 0,.int .i64 0,.int .i64 0,.int .i64 0,.int .i64 0,.int .i64 0,.int .i64 0,.int .i64 0,.int .i64 0,.int .i64 0,.int .i64 0,.int .i64 0,.int .i64 0,.int .i64 0,.int .i64 0,.int .i64 0]⟩
instance:CoeDep Z9 jf (Array Value):=⟨#[.int .i64 0,.int .i64 0,.slice none 0 0,.slice none 0 0,.int .i64 0,.int .i64 0,.int .i64 0,.int .i64 0,.int .i64 0,.string ⟨#[]⟩,.int .i64 0,.string ⟨#[]⟩,.int .i64 0]⟩
instance:CoeDep Z9 nJ (Array Value):=⟨#[.int .i64 0,.int .i64 0,.int .i64 0,.int .i64 0,.int .i64 0,.int .i64 0,.int .i64 0,.int .i64 0,.int .i64 0,.int .i64 0,.int .i64 0,.int .i64 0,.int .i64 0,.int .i64 0,.int .i64 0,.int .i64 0,.int .i64 0,.int .i64 0,.int .i64 0]⟩
instance:CoeDep Z9 tw (Array Value):=⟨#[.int .i64 0,.string ⟨#[]⟩,.int .i64 0,.string ⟨#[]⟩,.int .i64 0,.slice none 0 0,.slice none 0 0,.slice none 0 0,.slice none 0 0,.slice none 0 0,.slice none 0 0,.int .i64 0,.slice none 0 0,.slice none 0 0,.slice none 0 0,.slice none 0 0,.slice none 0 0,.int .i64 0,.int .i64 0,.int .i64 0,.bool false,.bool false,.slice none 0 0,.slice none 0 0,.slice none 0 0,.int .i64 0,.slice none 0 0]⟩
instance:CoeDep Z9 rp (Array Value):=⟨#[.string ⟨#[]⟩,.int .i64 0,.slice none 0 0,.slice none 0 0,.slice none 0 0,.slice none 0 0,.slice none 0 0,.slice none 0 0,.int .i64 0,.slice none 0 0,.slice none 0 0,.slice none 0 0,.slice none 0 0,.slice none 0 0,.int .i64 0]⟩
instance:CoeDep Z9 j3 (Array Value):=⟨#[.int .i64 0,.int .i64 0,.int .i64 0,.int .i64 0,.int .i64 0]⟩
instance:CoeDep Z9 rf (Array Value):=⟨#[.string ⟨#[]⟩,.string ⟨#[]⟩,.bool false,.int .i64 0,.bool false,.int .i64 0,.bool false,.int .i64 0,.int .i64 0]⟩
instance:CoeDep Z9 BX (Array Value):=⟨#[.int .i64 0,.int .i64 0,.int .i64 0,.int .i64 0,.int .i64 0,.int .i64 0,.int .i64 0,.int .i64 0,.int .i64 0,.int .i64 0,.int .i64 0,.int .i64 0,.int .i64 0,.int .i64 0,.int .i64 0,.int .i64 0,.int .i64 0,.int .i64 0,.int .i64 0,.int .i64 0,.bool false]⟩
instance:CoeDep Z9 BY (Array Value):=⟨#[.slice none 0 0,.slice none 0 0,.slice none 0 0,.slice none 0 0,.slice none 0 0,.slice none 0 0,.slice none 0 0,.slice none 0 0]⟩
instance:CoeDep Z9 Uh (Array Value):=⟨#[.int .i64 0,.string ByteArray.empty,.int .i64 0,.string ByteArray.empty,.int .i64 0,.slice none 0 0,.slice none 0 0,.slice none 0 0,.slice none 0 0,.slice none 0 0,.slice none 0 0,.int .i64 0,.slice none 0 0,.slice none 0 0,.slice none 0 0,.slice none 0 0,.slice none 0 0,.int .i64 0,.int .i64 0,.int .i64 0,.bool false,.bool false,.slice none 0 0,.slice none 0 0,.slice none 0 0,.int .i64 0,.slice none 0 0]⟩
instance:CoeDep Z9 Vy (Array Value):=⟨#[.int .i64 0,.int .i64 0,.string ByteArray.empty,.string ByteArray.empty]⟩
instance:CoeDep Z9 SS (Array Value):=⟨#[.int .i64 18,.int .i64 0,.int .i64 0,.int .i64 0,.int .i64 0]⟩
instance:CoeDep Z9 SU (Array Value):=⟨#[.int .i64 19,.int .i64 1,.int .i64 0,.int .i64 0,.int .i64 0]⟩
instance:CoeDep Z9 Ma (Array Value):=⟨#[.int .i64 0,.int .i64 0,.int .i64 0,.string ⟨#[]⟩,.bool false,.bool false,.slice none 0 0,.slice none 0 0,.int .i64 0,.slice none 0 0]⟩
instance:CoeDep Z9 Qd (Array Value):=⟨#[.int .i64 0,.int .i64 0,.slice none 0 0,.int .i64 0]⟩
instance:CoeDep Z9 Qe (Array Value):=⟨#[.string ⟨#[]⟩,.int .i64 0,.slice none 0 0,.slice none 0 0,.slice none 0 0,.slice none 0 0,.slice none 0 0,.slice none 0 0,.slice none 0 0]⟩
instance:CoeDep Z9 Qf (Array Value):=⟨#[.int .i64 1,.int .i64 0,.int .i64 0,.int .i64 0,.int .i64 0]⟩
instance:CoeDep Z9 Ui (Array Value):=⟨#[.int .i64 0,.int .i64 0,.int .i64 0,.slice none 0 0]⟩
instance (a:Array Value)(t:TypeId):CoeDep Z9 (eN a t) Obj:=⟨.cells a t⟩
end
