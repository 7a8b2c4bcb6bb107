/-
  Walks: the law's image of a page; the document's Whole; speaks.
-/
import Derived.Test.YtfkhgmdnajiabaaDoorTwQ
import Derived.Test.YtfkhgmdnajiabaaDoorRefG
namespace Go.Proofs.YtfkhgmdnajiabaaDoor
set_option linter.unusedSimpArgs false
set_option linter.unusedVariables false
open Go.RowKit Go.Maps

def imgP (n : Int) (t : List UInt8) : Pg := ⟨n, 1, 0, 0, [], [⟨t.take 60, [], false⟩]⟩
/-- The bytes of a page with a text in it. -/
def imgB (n : Int) (t : List UInt8) : List UInt8 := encB (imgP n t)
section
variable {n : Int} {t : List UInt8} (h0 : 0 ≤ n) (h1 : n ≤ 281474976710655)
include h0 h1
theorem imgP_right : rightB (imgP n t) = true := by
  have : (t.take 60).length ≤ 60 := by simp; omega
  have hb : badE ⟨t.take 60, [], false⟩ = false := by unfold badE; simp only [Bool.or_eq_false_iff, decide_eq_false_iff_not]; dsimp only [List.length_nil]; omega
  have hw : withinB n 0 281474976710655 = true := by unfold withinB; rw [decide_eq_true h0, decide_eq_true h1]; rfl
  unfold rightB imgP
  dsimp only
  rw [hw, List.any_cons, hb]
  rfl
theorem imgP_free : 0 ≤ freeOf (imgP n t) := by
  have _ := h0; have _ := h1
  have : (t.take 60).length ≤ 60 := by simp; omega
  simp only [freeOf, imgP, sizes, entSize, List.map_cons, List.map_nil, List.sum_cons, List.sum_nil, List.length_nil]
  omega
theorem imgB_length : (imgB n t).length = 512 := encB_length _ (imgP_free h0 h1)
theorem imgB_whole : wholeB (imgB n t) = true := wholeB_buildB _ _ (bodyB_length _ (imgP_free h0 h1))
theorem imgB_noughts : noughtsB (imgB n t) = false := buildB_noughts _ (imgP_right h0 h1)
theorem imgB_lsn : lsnB (imgB n t) = n.toNat := by
  unfold lsnB
  rw [show (imgB n t).take 6 = putB 6 n.toNat from encB_front (imgP_right h0 h1) (imgP_free h0 h1)]
  exact getB_putB _ _ (by omega)
theorem encR_img : encR (imgP n t) = (imgB n t, 0) := by
  unfold encR
  rw [if_pos (imgP_right h0 h1), if_neg (by have := imgP_free (t := t) h0 h1; omega)]; rfl
end

set_option maxHeartbeats 3200000 in
set_option maxRecDepth 100000 in
theorem image_any (pg n : Int) (t : List UInt8) (h0 : 0 ≤ n) (h1 : n ≤ 281474976710655) (ht : t.length ≤ 140737488355328) (w : World) (hT : Turns w) :
    Calls Tryd.prog 11 #[.agg #[.int .i64 pg, .string (bs t)], .int .i64 n] w fun e w' => e = .returned (.string (bs (imgB n t))) ∧ Below w.heap.size w w' := by
  obtain ⟨s, hs⟩ : ∃ s, s = imgB n t := ⟨_, rfl⟩
  have he := encR_img (t := t) h0 h1
  rw [← hs] at he ⊢
  have HE := Lib.hid he
  have hb1 : Below w.heap.size w (w.alloc (.cells #[.int .i64 pg, .string (bs t)] 24)) := (Below.refl _ _).alloc (Nat.le_refl _) _
  have hB1 := Blk.made w #[.int .i64 pg, .string (bs t)] 24
  have c0 := hB1.cell 0
  have c1 := hB1.cell 1
  replace c1 : (w.alloc (.cells #[.int .i64 pg, .string (bs t)] 24)).cell? ⟨w.heap.size, 1, none⟩ = some (.string (bs t)) := c1
  have hsm : Small (imgP n t) := by
    refine ⟨by simp [imgP], by simp [imgP], fun e he => ?_⟩
    simp [imgP] at he
    subst he
    simp
    omega
  have HB := Lib.hid hb1
  have ht1 := Lib.hid (hT.below hb1)
  have e60 : t.take (min (t.length : Int) 60).toNat = t.take 60 := by
    by_cases h : t.length ≤ 60
    · rw [show (min (t.length : Int) 60).toNat = t.length by omega, List.take_length, List.take_of_length_le h]
    · rw [show (min (t.length : Int) 60).toNat = 60 by omega]
  have hz1 : (w.alloc (.cells #[.int .i64 pg, .string (bs t)] 24)).heap.size = w.heap.size + 1 := by simp
  obtain ⟨w2, hw2⟩ : ∃ x, x = (w.alloc (.cells #[.int .i64 pg, .string (bs t)] 24)).alloc (.cells #[.string (bs (t.take 60)), .string ⟨#[]⟩, .bool false] 72) := ⟨_, rfl⟩
  have hb2 : Below w.heap.size w w2 := by rw [hw2]; exact hb1.alloc hb1.size _
  have hr2 : ReadsE w2 w2.heap.size (some ⟨w.heap.size + 1, 0, none⟩) (imgP n t).ents := by
    refine ⟨rfl, fun _ => ⟨_, rfl, by rw [hw2]; simp, fun j u hj => ?_⟩⟩
    have h2 : entsCells (imgP n t).ents = [.string (bs (t.take 60)), .string ⟨#[]⟩, .bool false] := rfl
    rw [h2] at hj
    rw [hw2, ← hz1]
    exact World.news_of_block (Blk.made (w.alloc (.cells #[.int .i64 pg, .string (bs t)] 24)) #[.string (bs (t.take 60)), .string ⟨#[]⟩, .bool false] 72) j u (by simpa using hj)
  have ht2 := hT.below hb2
  have ct := encode_any (imgP n t) (some ⟨w.heap.size + 1, 0, none⟩) 1 hsm w2 hr2 ht2
  rw [he] at ct
  have HB2 := Lib.hid hb2; have HW2 := Lib.hid hw2; have HE6 := Lib.hid e60
  clear he hb1 hB1 c0 hs hT hz1 hw2 hb2 hr2 ht2 e60 HB ht1 HE
  go_enter Tryd.func11, Tryd.ntmps11
  go_wp2_with fail
  rw [HE6.out, ← HW2.out]
  refine ct.mono ?_
  rintro e w3 ⟨rfl, hb3⟩
  clear ct
  go_wp2_with fail
  go_ret
  exact ⟨rfl, HB2.out.trans (hb3.mono HB2.out.size)⟩
/-- What the document's Whole says. -/
def refW (s : List UInt8) : Bool := decide (s.length = 512) && wholeB s
set_option maxHeartbeats 800000 in
theorem refwhole9_any (s : List UInt8) (hs : s.length ≤ 140737488355300) (w : World) :
    Calls Tryd.prog 14 #[.string (bs s)] w fun e w' => e = .returned (.bool (refW s)) ∧ Below w.heap.size w w' := by
  by_cases h : s.length = 512
  · have hn := fun W => refnothing_any s hs W
    have hw := fun W => refwhole_any s h W
    have hr : refW s = (noughtsB s || (sealedB s && twiceB s)) := by unfold refW wholeB; simp [h]
    rw [hr]
    cases hz : noughtsB s with
    | true =>
      rw [hz] at hn
      clear hr hz
      go_enter Tryd.func14, Tryd.ntmps14
      go_wp2_with fail
      refine (hn _).mono ?_
      rintro e w1 ⟨rfl, rfl⟩
      go_wp2_with fail
      go_ret
      exact ⟨rfl, Below.refl _ _⟩
    | false =>
      rw [hz] at hn
      generalize (sealedB s && twiceB s) = b at *
      clear hr hz
      go_enter Tryd.func14, Tryd.ntmps14
      go_wp2_with fail
      refine (hn _).mono ?_
      rintro e w1 ⟨rfl, rfl⟩
      go_wp2_with fail
      refine (hw _).mono ?_
      rintro e w1 ⟨rfl, hb⟩
      go_wp2_with fail
      go_ret
      exact ⟨by simp, hb⟩
  · have hr : refW s = false := by unfold refW; simp [h]
    have hi : ((s.length : Int) = 512) = False := by simp; omega
    rw [hr]
    clear hr
    go_enter Tryd.func14, Tryd.ntmps14
    go_wp2_with fail
    go_ret
    exact ⟨rfl, Below.refl _ _⟩
end Go.Proofs.YtfkhgmdnajiabaaDoor
