/-
  Walks: a page's bytes: Build, Body, LSN, Whole.
-/
import Derived.Test.YtjlcbabnkhdgpaaGreatDoorPageB
import Derived.Test.YtjlcbabnkhdgpaaGreatDoorShelf
namespace Go.Proofs.YtjlcbabnkhdgpaaGreatDoor
set_option linter.unusedSimpArgs false
set_option linter.unusedVariables false
open Go.RowKit

set_option maxHeartbeats 400000 in
theorem build_ok (n : Int) (b : List UInt8) (h0 : 0 ≤ n) (h1 : n ≤ 281474976710655) (hb : b.length = 496) (w : World) (ht : Turns w) :
    Calls Tryz.prog 51 #[.int .i64 n, .string (bs b)] w fun e w' => e = .returned (.string (bs (buildB n.toNat b))) ∧ Below w.heap.size w w' := by
  have HT := Lib.hid ht
  have hw : withinB n 0 281474976710655 = true := by simp [withinB, h0, h1]
  have hl : (putB 6 n.toNat ++ b ++ putB 6 n.toNat).length ≤ 140737488355328 := by simp [putB_length, hb]
  have HL := Lib.hid hl
  have hpl := putB_length 6 n.toNat
  clear ht hl
  go_enter Tryz.func51, Tryz.ntmps51
  go_wp2_with fail
  refine (within_any _ _ _ _).mono ?_
  rintro e w' ⟨rfl, rfl⟩
  go_wp2_with fail
  refine (put_ok n 6 (by decide) (by decide) h0 (show n.toNat < 281474976710656 by omega) _).mono ?_
  rintro e w1 ⟨rfl, hb1⟩
  rw [show (6 : Int).toNat = 6 from rfl]
  go_wp2_with fail
  refine (seal_any _ HL.out _ (HT.out.below hb1)).mono ?_
  rintro e w2 ⟨rfl, hb2⟩
  go_wp2
  go_ret
  exact ⟨rfl, hb1.trans (hb2.mono hb1.size)⟩

set_option maxHeartbeats 400000 in
theorem build_no (n : Int) (b : List UInt8) (h : withinB n 0 281474976710655 = false ∨ b.length ≠ 496) (hbm : b.length ≤ 140737488355328) (w : World) :
    Calls Tryz.prog 51 #[.int .i64 n, .string (bs b)] w fun e w' => e = .returned (.string (bs [])) ∧ w = w' := by
  cases hw : withinB n 0 281474976710655 with
  | false =>
    clear h
    go_enter Tryz.func51, Tryz.ntmps51
    go_wp2_with fail
    refine (within_any _ _ _ _).mono ?_
    rintro e w' ⟨rfl, rfl⟩
    go_wp2
    go_ret
    exact ⟨rfl, rfl⟩
  | true =>
    rcases h with h | h
    · rw [hw] at h; cases h
    · have hne : (((b.length : Nat) : Int) != 496) = true := by rw [bne_iff_ne]; omega
      clear h
      go_enter Tryz.func51, Tryz.ntmps51
      go_wp2_with fail
      refine (within_any _ _ _ _).mono ?_
      rintro e w' ⟨rfl, rfl⟩
      go_wp2
      go_ret
      exact ⟨rfl, rfl⟩

set_option maxHeartbeats 400000 in
theorem lsn_ok (l : List UInt8) (h : l.length = 512) (w : World) :
    Calls Tryz.prog 69 #[.string (bs l)] w fun e w' => e = .returned (.int .i64 (getB (l.take 6))) ∧ w = w' := by
  have h6 : (l.take 6).length ≤ 7 := by simp; omega
  have H6 := Lib.hid h6
  clear h6
  go_enter Tryz.func69, Tryz.ntmps69
  go_wp2_with fail
  refine (get_any _ H6.out _).mono ?_
  rintro e w' ⟨rfl, rfl⟩
  go_wp2
  go_ret
  exact ⟨rfl, rfl⟩
set_option maxHeartbeats 400000 in
theorem lsn_no (l : List UInt8) (h : l.length ≠ 512) (hbm : l.length ≤ 140737488355328) (w : World) :
    Calls Tryz.prog 69 #[.string (bs l)] w fun e w' => e = .returned (.int .i64 0) ∧ w = w' := by
  have hne : (((l.length : Nat) : Int) != 512) = true := by rw [bne_iff_ne]; omega
  clear h
  go_enter Tryz.func69, Tryz.ntmps69
  go_wp2
  go_ret
  exact ⟨rfl, rfl⟩

theorem dropWhile_nil (l : List UInt8) (p : UInt8 → Bool) : l.dropWhile p = [] ↔ l.all p = true := by
  induction l with
  | nil => simp
  | cons a l ih =>
    rw [List.dropWhile_cons]
    cases h : p a <;> simp [h]
    simpa using ih
theorem all_dropWhile (l : List UInt8) (p : UInt8 → Bool) : (l.dropWhile p).all p = l.all p := by
  induction l with
  | nil => simp
  | cons a l ih =>
    rw [List.dropWhile_cons]
    cases h : p a <;> simp [h]
    simpa using ih
theorem take508 (l : List UInt8) : (l.take 508).take 508 = l.take 508 := by rw [List.take_take]; rfl
theorem trimB_nil (l : List UInt8) : (Lib.trimB l 0).isEmpty = noughtsB l := by
  rw [Bool.eq_iff_iff, List.isEmpty_iff]
  unfold Lib.trimB Lib.trimLeftB Lib.trimRightB noughtsB
  rw [dropWhile_nil, List.all_reverse, all_dropWhile, List.all_reverse]

set_option maxHeartbeats 400000 in
theorem noughts_any (l : List UInt8) (hl : l.length ≤ 140737488355328) (w : World) :
    Calls Tryz.prog 60 #[.string (bs l)] w fun e w' => e = .returned (.bool (noughtsB l)) ∧ ∃ n, w' = w.drewN n := by
  obtain ⟨t, ht⟩ : ∃ t, Lib.trimB l 0 = t := ⟨_, rfl⟩
  have hc := Tryz.strings_Trim_one (bs l) 0 (by decide) w (by simp; omega)
  have e0 : (⟨(Lib.trimB (bs l).data.toList 0).toArray⟩ : ByteArray) = bs t := by rw [bs_data, ht]; rfl
  rw [e0] at hc
  have HT := Lib.hid ht
  clear ht e0
  go_enter Tryz.func60, Tryz.ntmps60
  go_wp2_with fail
  refine hc.mono ?_
  clear hc
  rintro e w' ⟨rfl, hw⟩
  go_wp2
  go_ret
  refine ⟨ret_bool (by rw [← trimB_nil, HT.out]), ?_⟩
  rcases hw with rfl | rfl
  · exact ⟨0, rfl⟩
  · exact ⟨1, rfl⟩

set_option maxHeartbeats 400000 in
theorem whole_no (l : List UInt8) (h : l.length ≠ 512) (hbm : l.length ≤ 140737488355328) (w : World) :
    Calls Tryz.prog 37 #[.string (bs l)] w fun e w' => e = .returned (.bool false) ∧ w = w' := by
  have hne : (((l.length : Nat) : Int) != 512) = true := by rw [bne_iff_ne]; omega
  clear h
  go_enter Tryz.func37, Tryz.ntmps37
  go_wp2
  go_ret
  exact ⟨rfl, rfl⟩

set_option maxHeartbeats 1600000 in
theorem whole_tt (l : List UInt8) (h : l.length = 512) (hz : noughtsB l = true) (hs : sealedB l = true) (w : World) (ht : Turns w) :
    Calls Tryz.prog 37 #[.string (bs l)] w fun e w' => e = .returned (.bool (wholeB l)) ∧ Below w.heap.size w w' := by
  have HT := Lib.hid ht
  clear ht
  have hn := noughts_any l (by omega)
  have hb2 := open_ok l (by omega) (by omega) hs w HT.out
  try rw [h] at hb2
  rw [hz] at hn
  have HW := Lib.hid (show wholeB l = true by simp [wholeB, hz])
  have HN := Lib.hid hn
  clear hn hs hz
  go_enter Tryz.func37, Tryz.ntmps37
  go_wp2_with fail
  refine hb2.mono ?_
  clear hb2
  rintro e w' ⟨rfl, hbel⟩
  go_wp2_with fail
  go_quiet ((go_at_call 60; exact Calls.quiet_of (HN.out _)))
  go_wp2
  go_ret
  exact ⟨ret_bool (by rw [HW.out]; try rw [take508]), below_drewN hbel _⟩

set_option maxHeartbeats 1600000 in
theorem whole_tf (l : List UInt8) (h : l.length = 512) (hz : noughtsB l = true) (hs : sealedB l = false) (w : World) (ht : Turns w) :
    Calls Tryz.prog 37 #[.string (bs l)] w fun e w' => e = .returned (.bool (wholeB l)) ∧ Below w.heap.size w w' := by
  have HT := Lib.hid ht
  clear ht
  have hn := noughts_any l (by omega)
  have hb2 := open_bad l (by omega) (by omega) hs w HT.out
  try rw [h] at hb2
  rw [hz] at hn
  have HW := Lib.hid (show wholeB l = true by simp [wholeB, hz])
  have HN := Lib.hid hn
  clear hn hs hz
  go_enter Tryz.func37, Tryz.ntmps37
  go_wp2_with fail
  refine hb2.mono ?_
  clear hb2
  rintro e w' ⟨rfl, hbel⟩
  go_wp2_with fail
  go_quiet ((go_at_call 60; exact Calls.quiet_of (HN.out _)))
  go_wp2
  go_ret
  exact ⟨ret_bool (by rw [HW.out]; try rw [take508]), below_drewN hbel _⟩

set_option maxHeartbeats 1600000 in
theorem whole_ft (l : List UInt8) (h : l.length = 512) (hz : noughtsB l = false) (hs : sealedB l = true) (w : World) (ht : Turns w) :
    Calls Tryz.prog 37 #[.string (bs l)] w fun e w' => e = .returned (.bool (wholeB l)) ∧ Below w.heap.size w w' := by
  have HT := Lib.hid ht
  clear ht
  have hn := noughts_any l (by omega)
  have hb2 := open_ok l (by omega) (by omega) hs w HT.out
  try rw [h] at hb2
  rw [hz] at hn
  have HW := Lib.hid (show wholeB l = ((l.take 508).take 6 == (l.take 508).drop 502) by simp [wholeB, hz, hs, twiceB])
  have HN := Lib.hid hn
  clear hn hs hz
  go_enter Tryz.func37, Tryz.ntmps37
  go_wp2_with fail
  refine hb2.mono ?_
  clear hb2
  rintro e w' ⟨rfl, hbel⟩
  go_wp2_with fail
  go_quiet ((go_at_call 60; exact Calls.quiet_of (HN.out _)))
  go_wp2
  go_ret
  exact ⟨ret_bool (by rw [HW.out]; try rw [take508]), below_drewN hbel _⟩

set_option maxHeartbeats 1600000 in
theorem whole_ff (l : List UInt8) (h : l.length = 512) (hz : noughtsB l = false) (hs : sealedB l = false) (w : World) (ht : Turns w) :
    Calls Tryz.prog 37 #[.string (bs l)] w fun e w' => e = .returned (.bool (wholeB l)) ∧ Below w.heap.size w w' := by
  have HT := Lib.hid ht
  clear ht
  have hn := noughts_any l (by omega)
  have hb2 := open_bad l (by omega) (by omega) hs w HT.out
  try rw [h] at hb2
  rw [hz] at hn
  have HW := Lib.hid (show wholeB l = false by simp [wholeB, hz, hs])
  have HN := Lib.hid hn
  clear hn hs hz
  go_enter Tryz.func37, Tryz.ntmps37
  go_wp2_with fail
  refine hb2.mono ?_
  clear hb2
  rintro e w' ⟨rfl, hbel⟩
  go_wp2_with fail
  go_quiet ((go_at_call 60; exact Calls.quiet_of (HN.out _)))
  go_wp2
  go_ret
  exact ⟨ret_bool (by rw [HW.out]; try rw [take508]), below_drewN hbel _⟩

theorem whole_ok (l : List UInt8) (h : l.length = 512) (w : World) (ht : Turns w) :
    Calls Tryz.prog 37 #[.string (bs l)] w fun e w' => e = .returned (.bool (wholeB l)) ∧ Below w.heap.size w w' := by
  cases hz : noughtsB l <;> cases hs : sealedB l
  · exact whole_ff l h hz hs w ht
  · exact whole_ft l h hz hs w ht
  · exact whole_tf l h hz hs w ht
  · exact whole_tt l h hz hs w ht
end Go.Proofs.YtjlcbabnkhdgpaaGreatDoor
