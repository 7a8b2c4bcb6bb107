/-
  Walks: the document's answer for layer 2: Put, Get, Sum, Seal.
-/
import Derived.Test.YtfkhgmdnajiabaaDoorSumC
namespace Go.Proofs.YtfkhgmdnajiabaaDoor
set_option linter.unusedSimpArgs false
set_option linter.unusedVariables false
open Go.RowKit

/-- One byte of a number, as a string. -/
theorem conv1 (w : World) (m : Nat) : (convert 83 9 (.slice (some ⟨w.heap.size, 0, none⟩) 1 1)).run Tryd.prog (w.alloc (.cells #[.int .u8 ((m : Int) % 256)] 5)) = .ok (.string (bs [UInt8.ofNat (m % 256)])) (w.alloc (.cells #[.int .u8 ((m : Int) % 256)] 5)) := by
  have h := (RowB.made w [UInt8.ofNat (m % 256)]).conv 1 1 rfl
  have e : (Lib.byteCells [UInt8.ofNat (m % 256)]).toArray = #[.int .u8 ((m : Int) % 256)] := by
    simp only [Lib.byteCells, List.map_cons, List.map_nil]
    have : ((UInt8.ofNat (m % 256)).toNat : Int) = (m : Int) % 256 := by
      simp
    rw [this]
  rw [e] at h
  exact h

end Go.Proofs.YtfkhgmdnajiabaaDoor
