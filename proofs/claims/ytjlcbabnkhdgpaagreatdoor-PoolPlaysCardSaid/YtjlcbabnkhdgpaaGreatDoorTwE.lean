/-
  Walks: a slot's image.
-/
import Derived.Test.YtjlcbabnkhdgpaaGreatDoorTwD
import Derived.Test.YtjlcbabnkhdgpaaGreatDoorQt
namespace Go.Proofs.YtjlcbabnkhdgpaaGreatDoor
set_option linter.unusedSimpArgs false
set_option linter.unusedVariables false
open Go.RowKit Go.Maps

def slotN (a : ArM) (d : DevM) (i : Nat) : Nat := getB (((readM d (a.sat + 3 * i)).take 4).drop 2)
def slotS (a : ArM) (d : DevM) (i : Nat) : List UInt8 := readM d (a.sat + 3 * i + 1) ++ readM d (a.sat + 3 * i + 1 + 1)
/-- Does slot i count? -/
def slotB (a : ArM) (d : DevM) (i : Nat) : Bool :=
  ((readM d (a.sat + 3 * i)).take 8 == nameB (slotN a d i)) && (thereB a (slotN a d i) && (wholeB (slotS a d i) && !noughtsB (slotS a d i)))

end Go.Proofs.YtjlcbabnkhdgpaaGreatDoor
