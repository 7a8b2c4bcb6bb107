/-
  Walks: the law's image of a page; the document's Whole; speaks.
-/
import Derived.Test.YtjlcbabnkhdgpaaGreatDoorTwQ
namespace Go.Proofs.YtjlcbabnkhdgpaaGreatDoor
set_option linter.unusedSimpArgs false
set_option linter.unusedVariables false
open Go.RowKit Go.Maps

def imgP (n : Int) (t : List UInt8) : Pg := ⟨n, 1, 0, 0, [], [⟨t.take 60, [], false⟩]⟩
/-- The bytes of a page with a text in it. -/
def imgB (n : Int) (t : List UInt8) : List UInt8 := encB (imgP n t)
section
variable {n : Int} {t : List UInt8} (h0 : 0 ≤ n) (h1 : n ≤ 281474976710655)
include h0 h1
theorem imgP_right : rightB (imgP n t) = true := by
  have : (t.take 60).length ≤ 60 := by simp; omega
  have hb : badE ⟨t.take 60, [], false⟩ = false := by unfold badE; simp only [Bool.or_eq_false_iff, decide_eq_false_iff_not]; dsimp only [List.length_nil]; omega
  have hw : withinB n 0 281474976710655 = true := by unfold withinB; rw [decide_eq_true h0, decide_eq_true h1]; rfl
  unfold rightB imgP
  dsimp only
  rw [hw, List.any_cons, hb]
  rfl
theorem imgP_free : 0 ≤ freeOf (imgP n t) := by
  have _ := h0; have _ := h1
  have : (t.take 60).length ≤ 60 := by simp; omega
  simp only [freeOf, imgP, sizes, entSize, List.map_cons, List.map_nil, List.sum_cons, List.sum_nil, List.length_nil]
  omega
theorem imgB_length : (imgB n t).length = 512 := encB_length _ (imgP_free h0 h1)
theorem imgB_whole : wholeB (imgB n t) = true := wholeB_buildB _ _ (bodyB_length _ (imgP_free h0 h1))
theorem imgB_noughts : noughtsB (imgB n t) = false := buildB_noughts _ (imgP_right h0 h1)
theorem imgB_lsn : lsnB (imgB n t) = n.toNat := by
  unfold lsnB
  rw [show (imgB n t).take 6 = putB 6 n.toNat from encB_front (imgP_right h0 h1) (imgP_free h0 h1)]
  exact getB_putB _ _ (by omega)
theorem encR_img : encR (imgP n t) = (imgB n t, 0) := by
  unfold encR
  rw [if_pos (imgP_right h0 h1), if_neg (by have := imgP_free (t := t) h0 h1; omega)]; rfl
end

/-- What the document's Whole says. -/
def refW (s : List UInt8) : Bool := decide (s.length = 512) && wholeB s
end Go.Proofs.YtjlcbabnkhdgpaaGreatDoor
