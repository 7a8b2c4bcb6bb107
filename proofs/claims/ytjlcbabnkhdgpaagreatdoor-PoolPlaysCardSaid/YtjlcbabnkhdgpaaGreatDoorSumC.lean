/-
  Walks: the sum of bytes, over the table.
-/
import Derived.Test.YtjlcbabnkhdgpaaGreatDoorSumB
namespace Go.Proofs.YtjlcbabnkhdgpaaGreatDoor
open Go.RowKit

/-- The table is as the program's text lays it. -/
def Turns (w : World) : Prop := ∀ i, i < 16 → w.cell? ⟨0, i, none⟩ = some (.int .u32 (turnAt i))

theorem Turns.lt {w : World} (h : Turns w) : 0 < w.heap.size := by
  have := h 0 (by decide)
  rcases Nat.lt_or_ge 0 w.heap.size with h' | h'
  · exact h'
  · simp [World.cell?, Array.getElem?_eq_none h'] at this
theorem Turns.below {w w' : World} (h : Turns w) (hb : Below w.heap.size w w') : Turns w' := fun i hi => by
  rw [hb.cell h.lt]; exact h i hi

theorem Turns.drew {w : World} (h : Turns w) : Turns w.drew := h

theorem bits_xor32 (a b : Nat) (ha : a < 4294967296) (hb : b < 4294967296) : bits .xor .u32 (a : Int) (b : Int) = ((a ^^^ b : Nat) : Int) := by
  have hx : a ^^^ b < 4294967296 := Nat.xor_lt_two_pow (n := 32) ha hb
  simp only [bits, BitVec.ofInt_natCast, BitVec.toNat_xor, BitVec.toNat_ofNat]
  rw [show (2 : Nat) ^ IntKind.u32.bits = 4294967296 from rfl, Nat.mod_eq_of_lt ha, Nat.mod_eq_of_lt hb, IntKind.wrap_u32]
  omega

theorem bits_and15 (a : Nat) (ha : a < 4294967296) : bits .and .u32 (a : Int) 15 = ((a % 16 : Nat) : Int) := by
  have := bits_mask .u32 32 (by decide) (fun n h0 h1 => by rw [IntKind.wrap_u32]; omega) 4 (by decide) (a : Int) (by omega) (by omega)
  rw [show ((2 : Int) ^ 4 - 1) = 15 from rfl] at this
  rw [this]; omega

theorem nat_xor_max (a : Nat) (ha : a < 4294967296) : 4294967295 ^^^ a = 4294967295 - a := by
  apply Nat.eq_of_testBit_eq
  intro i
  rw [Nat.testBit_xor]
  have h1 : Nat.testBit 4294967295 i = decide (i < 32) := by
    have := Nat.testBit_two_pow_sub_one 32 i
    simpa using this
  have h2 := Nat.testBit_two_pow_sub_succ (n := 32) (x := a) (by omega) i
  rw [show 2 ^ 32 - (a + 1) = 4294967295 - a from by omega] at h2
  rw [h1, h2]
  by_cases h : i < 32
  · simp [h]
  · have : a.testBit i = false := Nat.testBit_lt_two_pow (Nat.lt_of_lt_of_le ha (by
      have : 2 ^ 32 ≤ 2 ^ i := Nat.pow_le_pow_right (by decide) (by omega)
      omega))
    simp [h, this]

theorem xor_max (a : Nat) (ha : a < 4294967296) : bits .xor .u32 IntKind.u32.max (a : Int) = ((4294967295 - a : Nat) : Int) := by
  have := bits_xor32 4294967295 a (by decide) ha
  rw [nat_xor_max a ha] at this
  exact this

theorem turnAt_lt (i : Nat) : turnAt i < 4294967296 := by
  by_cases h : i < 16
  · exact (by decide +kernel : ∀ i, i < 16 → turnAt i < 4294967296) i h
  · have : turnAt i = 0 := by
      unfold turnAt
      rw [List.getD, List.getElem?_eq_none (by simp [turnsN]; omega)]; rfl
    omega

set_option maxHeartbeats 400000 in
set_option maxRecDepth 100000 in
theorem sum_any (l : List UInt8) (hl : l.length ≤ 140737488355328) (w : World) (ht : Turns w) :
    Calls Tryz.prog 102 #[.string (bs l)] w fun e w' => e = .returned (.int .u32 (crc l)) ∧ w' = w := by
  have HT := Lib.hid ht
  clear ht
  go_enter Tryz.func102, Tryz.ntmps102
  go_wp2
  go_loop [3, 7] (fun n i => ∃ k : Nat, k ≤ l.length ∧ i = .int .i64 k ∧ n = .int .u32 (crcReg (l.take k))) (fun _ i => l.length - (intOf i).toNat)
  case atStart => exact ⟨0, Nat.zero_le _, rfl, rfl⟩
  case round =>
    obtain ⟨k, hk, rfl, rfl⟩ := hrel
    have hr := crcReg_lt (l.take k)
    by_cases hlt : k < l.length
    · have hb := (l[k]'hlt).toNat_lt
      obtain ⟨a, ha⟩ : ∃ a, a = crcReg (l.take k) := ⟨_, rfl⟩
      rw [← ha] at hr ⊢
      obtain ⟨x, hx⟩ : ∃ x, x = a ^^^ (l[k]'hlt).toNat := ⟨_, rfl⟩
      obtain ⟨m1, hm1⟩ : ∃ m, m = x % 16 := ⟨_, rfl⟩
      obtain ⟨y, hy⟩ : ∃ y, y = x / 16 ^^^ turnAt m1 := ⟨_, rfl⟩
      obtain ⟨m2, hm2⟩ : ∃ m, m = y % 16 := ⟨_, rfl⟩
      obtain ⟨z, hz⟩ : ∃ z, z = y / 16 ^^^ turnAt m2 := ⟨_, rfl⟩
      have xl : x < 4294967296 := by rw [hx]; exact Nat.xor_lt_two_pow (n := 32) hr (by omega)
      have yl : y < 4294967296 := by rw [hy]; exact Nat.xor_lt_two_pow (n := 32) (by omega) (turnAt_lt _)
      have e1 : bits .xor .u32 (a : Int) ((((bs l)[k]'(by simpa using hlt)).toNat : Int) % 4294967296) = (x : Int) := by
        rw [bs_get, show ((((l[k]'hlt).toNat : Nat) : Int) % 4294967296) = (((l[k]'hlt).toNat : Nat) : Int) from by omega, bits_xor32 _ _ hr (by omega), hx]
      have e2 : bits .and .u32 (x : Int) 15 = (m1 : Int) := by rw [bits_and15 _ xl, hm1]
      have e3 : bits .xor .u32 ((x : Int) / 16) (turnAt m1 : Int) = (y : Int) := by
        rw [show (x : Int) / 16 = ((x / 16 : Nat) : Int) from by omega, bits_xor32 _ _ (by omega) (turnAt_lt _), hy]
      have e4 : bits .and .u32 (y : Int) 15 = (m2 : Int) := by rw [bits_and15 _ yl, hm2]
      have e5 : bits .xor .u32 ((y : Int) / 16) (turnAt m2 : Int) = (z : Int) := by
        rw [show (y : Int) / 16 = ((y / 16 : Nat) : Int) from by omega, bits_xor32 _ _ (by omega) (turnAt_lt _), hz]
      have c1 := HT.out m1 (by omega)
      have c2 := HT.out m2 (by omega)
      have l1 : m1 < 16 := by omega
      have l2 : m2 < 16 := by omega
      have Hz : Hid (z = crcReg (l.take (k + 1))) := by
        show z = _
        rw [List.take_succ_eq_append_getElem hlt, crcReg_snoc, crcByte_eq, ← ha, ← hx, hz, hm2, hy, hm1]
      clear ha hx hm1 hy hm2 hz
      go_wp2
      go_round
      case rel => exact ⟨k + 1, by omega, by go_num, by rw [Hz.out]⟩
      case measure => simp [intOf]; omega
    · go_wp2
      go_ret
      refine ⟨ret_int ?_, rfl⟩
      rw [xor_max _ hr, List.take_of_length_le (by omega)]
      unfold crc
      have := crcReg_lt l
      omega

theorem leB_cells (n : Nat) : (Lib.byteCells (leB n)).toArray = #[.int .u8 ((n : Int) % 256), .int .u8 ((n : Int) / 256 % 256), .int .u8 ((n : Int) / 65536 % 256), .int .u8 ((n : Int) / 16777216 % 256)] := by
  simp [Lib.byteCells, leB]

set_option maxHeartbeats 400000 in
set_option maxRecDepth 100000 in
theorem mark_any (l : List UInt8) (hl : l.length ≤ 140737488355328) (w : World) (ht : Turns w) :
    Calls Tryz.prog 83 #[.string (bs l)] w fun e w' => e = .returned (.string (bs (markB l))) ∧ Below w.heap.size w w' := by
  have HT := Lib.hid ht
  clear ht
  have hr := (RowB.made w (leB (crc l))).conv 4 4 rfl
  rw [leB_cells] at hr
  go_enter Tryz.func83, Tryz.ntmps83
  go_wp2_with (go_at_call 102; refine (sum_any l hl _ HT.out).mono ?_; rintro e w' ⟨rfl, rfl⟩)
  go_ret
  exact ⟨rfl, (Below.refl _ _).alloc (Nat.le_refl _) _⟩

set_option maxHeartbeats 400000 in
set_option maxRecDepth 100000 in
theorem seal_any (l : List UInt8) (hl : l.length ≤ 140737488355328) (w : World) (ht : Turns w) :
    Calls Tryz.prog 76 #[.string (bs l)] w fun e w' => e = .returned (.string (bs (sealB l))) ∧ Below w.heap.size w w' := by
  have HT := Lib.hid ht
  clear ht
  have hm := markB_length l
  go_enter Tryz.func76, Tryz.ntmps76
  go_wp2_with (go_at_call 83; refine (mark_any l hl _ HT.out).mono ?_; rintro e w' ⟨rfl, hb⟩)
  go_ret
  exact ⟨rfl, hb⟩

set_option maxHeartbeats 400000 in
set_option maxRecDepth 100000 in
theorem open_short (l : List UInt8) (hl : l.length < 4) (w : World) :
    Calls Tryz.prog 59 #[.string (bs l)] w fun e w' => e = .returned (.tuple #[.string (bs []), .int .i64 3]) ∧ w' = w := by
  go_enter Tryz.func59, Tryz.ntmps59
  go_wp2
  go_ret2
  exact ⟨rfl, rfl⟩

set_option maxHeartbeats 400000 in
set_option maxRecDepth 100000 in
theorem open_ok (l : List UInt8) (h4 : 4 ≤ l.length) (hl : l.length ≤ 140737488355328) (hs : sealedB l = true) (w : World) (ht : Turns w) :
    Calls Tryz.prog 59 #[.string (bs l)] w fun e w' => e = .returned (.tuple #[.string (bs (l.take (l.length - 4))), .int .i64 0]) ∧ Below w.heap.size w w' := by
  have HT := Lib.hid ht
  clear ht
  have hl' : (l.take (l.length - 4)).length ≤ 140737488355328 := by simp; omega
  have hq : (l.drop (l.length - 4) == markB (l.take (l.length - 4))) = true := hs
  clear hs
  go_enter Tryz.func59, Tryz.ntmps59
  go_wp2_with fail
  go_region_with (go_at_call 83; refine (mark_any _ hl' _ HT.out.drew).mono ?_; rintro e w' ⟨rfl, hb⟩)
  all_goals (go_wp2; all_goals go_ret2)
  all_goals exact ⟨rfl, (Below.refl _ _).drew.trans hb⟩

set_option maxHeartbeats 400000 in
set_option maxRecDepth 100000 in
theorem open_bad (l : List UInt8) (h4 : 4 ≤ l.length) (hl : l.length ≤ 140737488355328) (hs : sealedB l = false) (w : World) (ht : Turns w) :
    Calls Tryz.prog 59 #[.string (bs l)] w fun e w' => e = .returned (.tuple #[.string (bs []), .int .i64 5]) ∧ Below w.heap.size w w' := by
  have HT := Lib.hid ht
  clear ht
  have hl' : (l.take (l.length - 4)).length ≤ 140737488355328 := by simp; omega
  have hq : (l.drop (l.length - 4) == markB (l.take (l.length - 4))) = false := hs
  clear hs
  go_enter Tryz.func59, Tryz.ntmps59
  go_wp2_with fail
  go_region_with (go_at_call 83; refine (mark_any _ hl' _ HT.out.drew).mono ?_; rintro e w' ⟨rfl, hb⟩)
  all_goals (go_wp2; all_goals go_ret2)
  all_goals exact ⟨rfl, (Below.refl _ _).drew.trans hb⟩

end Go.Proofs.YtjlcbabnkhdgpaaGreatDoor
