/-
  Walks: 'speaks': a page of one entry is written and read.
-/
import Derived.Test.YtlhcfmcbfdihoaaDoorLawA
import Derived.Test.YtlhcfmcbfdihoaaDoorSame
namespace Go.Proofs.YtlhcfmcbfdihoaaDoor
open Go.RowKit

/-- The page of one entry. -/
def pg1 : Pg := ⟨0, 1, 0, 0, [], [⟨[97, 98], [], false⟩]⟩
theorem pg1_right : rightB pg1 = true := by decide
theorem pg1_free : freeOf pg1 = 484 := by decide
theorem pg0_free : freeOf pg0 = 489 := by decide
theorem pg1_small : Small pg1 := by
  refine ⟨by decide, by decide, ?_⟩
  intro e he
  simp [pg1] at he
  subst he
  decide

set_option maxHeartbeats 3200000 in
set_option maxRecDepth 100000 in
theorem speaks_any (w : World) (ht : Turns w) : Calls Tryd.prog 8 #[] w fun e w' => e = .returned (.bool true) ∧ Below w.heap.size w w' := by
  obtain ⟨s, hs⟩ : ∃ s, s = encB pg1 := ⟨_, rfl⟩
  have hl : s.length = 512 := by rw [hs]; exact encB_length pg1 (by rw [pg1_free]; decide)
  have hz : noughtsB s = false := by rw [hs]; exact buildB_noughts _ pg1_right
  have hw : wholeB s = true := by rw [hs]; exact wholeB_buildB _ _ (bodyB_length pg1 (by rw [pg1_free]; decide))
  have hd : decB s = some pg1 := by rw [hs]; exact encB_dec pg1_right (by rw [pg1_free]; decide)
  have he : encR pg1 = (s, 0) := by unfold encR; rw [if_pos pg1_right, if_neg (by rw [pg1_free]; decide), hs]
  have HZ := Lib.hid hz; have HW := Lib.hid hw; have HD := Lib.hid hd; have HE := Lib.hid he; have HL := Lib.hid hl
  clear hs hz hw hd he hl
  go_enter Tryd.func8, Tryd.ntmps8
  go_wp2_with fail
  have hb1 : Below w.heap.size w (w.alloc (.cells #[.string ⟨#[97, 98]⟩, .string ⟨#[]⟩, .bool false] 56)) := (Below.refl _ _).alloc (Nat.le_refl _) _
  have hr1 : ReadsE (w.alloc (.cells #[.string ⟨#[97, 98]⟩, .string ⟨#[]⟩, .bool false] 56)) (w.alloc (.cells #[.string ⟨#[97, 98]⟩, .string ⟨#[]⟩, .bool false] 56)).heap.size (some ⟨w.heap.size, 0, none⟩) pg1.ents := by
    refine ⟨rfl, fun _ => ⟨_, rfl, by simp, fun j u hj => ?_⟩⟩
    exact new_cell w _ _ j rfl (by
      have h2 : entsCells pg1.ents = [.string ⟨#[97, 98]⟩, .string ⟨#[]⟩, .bool false] := rfl
      rw [h2] at hj
      simpa using hj)
  generalize w.alloc (.cells #[.string ⟨#[97, 98]⟩, .string ⟨#[]⟩, .bool false] 56) = w1 at *
  have ht1 := ht.below hb1
  have ct := encode_any pg1 (some ⟨w.heap.size, 0, none⟩) 1 pg1_small w1 hr1 ht1
  rw [HE.out] at ct
  refine ct.mono ?_
  clear ct
  rintro e w2 ⟨rfl, hb2⟩
  have ht2 := ht1.below hb2
  have ct := decode_whole s HL.out HZ.out HW.out w2 ht2
  unfold DecWhole at ct
  rw [HD.out] at ct
  simp only at ct
  go_wp2_with fail
  refine ct.mono ?_
  clear ct
  rintro e w3 ⟨A, c, rfl, hr3, hc3, hb3⟩
  have hp : pgCells pg1 A c = #[.int .i64 0, .int .i64 1, .int .i64 0, .int .i64 0, .string (bs []), .slice A 1 c] := rfl
  rw [hp]
  clear hp
  have ht3 := ht2.below hb3
  go_wp2_with fail
  have hb4 : Below w3.heap.size w3 (w3.alloc (.cells #[.int .i64 0, .int .i64 1, .int .i64 0, .int .i64 0, .string (bs []), .slice A 1 c] 29)) := (Below.refl _ _).alloc (Nat.le_refl _) _
  generalize w3.alloc (.cells #[.int .i64 0, .int .i64 1, .int .i64 0, .int .i64 0, .string (bs []), .slice A 1 c] 29) = w4 at *
  have ht4 := ht3.below hb4
  have hr4 : ReadsE w4 w4.heap.size A pg1.ents := (hr3.below hb4).more hb4.size
  refine (free_any pg1 A c pg1_small w4 hr4).mono ?_
  rintro e w5 ⟨rfl, hb5⟩
  rw [pg1_free]
  have ht5 := ht4.below hb5
  have hsm0 : Small pg0 := ⟨by decide, by decide, fun e he => by simp [pg0] at he⟩
  go_wp2_with fail
  refine (free_any pg0 none 0 hsm0 w5 Reads.none_).mono ?_
  rintro e w6 ⟨rfl, hb6⟩
  rw [pg0_free]
  have ht6 := ht5.below hb6
  go_wp2_with fail
  refine (whole_ok s HL.out w6 ht6).mono ?_
  rintro e w7 ⟨rfl, hb7⟩
  rw [HW.out]
  go_wp2_with fail
  go_ret
  exact ⟨rfl, hb1.trans ((hb2.trans ((hb3.trans ((hb4.trans ((hb5.trans ((hb6.trans (hb7.mono hb6.size)).mono hb5.size)).mono hb4.size)).mono hb3.size)).mono hb2.size)).mono hb1.size)⟩
end Go.Proofs.YtlhcfmcbfdihoaaDoor
