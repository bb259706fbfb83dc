/- More of them. -/
import Derived.Deep.QuietTactic
import Derived.Lib.Hide
set_option linter.all false
namespace Go.Proofs.YtoaehdgokeicoaaGreatDoor
def eD:=@Go.Lib.hid
def gO:=@Go.Lib.hid
def eO:=@Go.wpQuiet_nil
def Ia:=@Go.wpStill_nil
end Go.Proofs.YtoaehdgokeicoaaGreatDoor
