/-
  Walks: Put.
-/
import Derived.Test.YtjlcbabnkhdgpaaGreatDoorSumA
namespace Go.Proofs.YtjlcbabnkhdgpaaGreatDoor
open Go.RowKit

theorem shr_zero (n size : Int) (h0 : 0 ≤ n) (h1 : 1 ≤ size) (h7 : size ≤ 7) (hn : n.toNat < 256 ^ size.toNat) : (n / 2 ^ (8 * size).toNat != 0) = false := by
  obtain ⟨a, rfl⟩ := Int.eq_ofNat_of_zero_le h0
  obtain ⟨s, rfl⟩ := Int.eq_ofNat_of_zero_le (by omega : 0 ≤ size)
  have e : (8 * (s : Int)).toNat = 8 * s := by omega
  rw [e]
  have e2 : (256 : Nat) ^ s = 2 ^ (8 * s) := by rw [show (256 : Nat) = 2 ^ 8 from rfl, ← Nat.pow_mul]
  simp only [Int.toNat_natCast] at hn
  rw [e2] at hn
  have : ((a : Int) / 2 ^ (8 * s)) = ((a / 2 ^ (8 * s) : Nat) : Int) := by simp
  rw [this, Nat.div_eq_of_lt hn]; rfl

set_option maxHeartbeats 400000 in
set_option maxRecDepth 100000 in
theorem put_ok (n size : Int) (h1 : 1 ≤ size) (h7 : size ≤ 7) (h0 : 0 ≤ n) (hn : n.toNat < 256 ^ size.toNat) (w : World) :
    Calls Tryz.prog 49 #[.int .i64 n, .int .i64 size] w fun e w' => e = .returned (.string (bs (putB size.toNat n.toNat))) ∧ Below w.heap.size w w' := by
  have hz := shr_zero n size h0 h1 h7 hn
  have HN := Lib.hid hn
  clear hn
  have hmk := run_make_bytes w size (by omega) (by omega)
  have hr0 := RowB.made w (List.replicate size.toNat 0)
  have hb0 : Below w.heap.size w (w.alloc (.cells (Lib.byteCells (List.replicate size.toNat 0)).toArray 5)) := (Below.refl _ _).alloc (Nat.le_refl _) _
  have HR := Lib.hid hr0
  clear hr0
  go_enter Tryz.func49, Tryz.ntmps49
  go_wp2
  clear hmk
  go_loopw [28] (fun i wr => ∃ k : Nat, k ≤ size.toNat ∧ i = .int .i64 k ∧ RowB wr w.heap.size (List.replicate (size.toNat - k) 0 ++ putB k n.toNat) ∧ Below w.heap.size w wr) (fun i _ => size.toNat - (intOf i).toNat)
  case atStart => exact ⟨0, Nat.zero_le _, rfl, by simpa [putB] using HR.out, hb0⟩
  case round =>
    obtain ⟨k, hk, rfl, hrow, hbel⟩ := hrel
    have hlen : (List.replicate (size.toNat - k) (0 : UInt8) ++ putB k n.toNat).length = size.toNat := by rw [List.length_append, List.length_replicate, putB_length]; omega
    by_cases hlt : k < size.toNat
    · obtain ⟨v, hc⟩ := hrow.cell_ex (size.toNat - 1 - k) (by omega)
      have hf := hrow.frozen (size.toNat - 1 - k)
      clear hlen
      go_wp2
      go_roundw
      case rel =>
        refine ⟨k + 1, by omega, by go_num, ?_, hbel.setCell (Nat.le_refl _) _⟩
        have h2 := hrow.set (size.toNat - 1 - k) (UInt8.ofNat (n.toNat / 256 ^ k % 256)) (n / 2 ^ (8 * k) % 256) (by
          obtain ⟨a, rfl⟩ := Int.eq_ofNat_of_zero_le h0
          have e2 : (256 : Nat) ^ k = 2 ^ (8 * k) := by rw [show (256 : Nat) = 2 ^ 8 from rfl, ← Nat.pow_mul]
          rw [e2, Int.toNat_natCast, UInt8.toNat_ofNat', Nat.mod_mod]
          simp)
        have e : (List.replicate (size.toNat - k) (0 : UInt8) ++ putB k n.toNat).set (size.toNat - 1 - k) (UInt8.ofNat (n.toNat / 256 ^ k % 256)) = List.replicate (size.toNat - (k + 1)) 0 ++ putB (k + 1) n.toNat := by
          rw [putB_cons, show size.toNat - k = (size.toNat - (k + 1)) + 1 from by omega, List.replicate_succ', List.append_assoc, List.set_append_right _ _ (by simp; omega)]
          rw [List.length_replicate, show size.toNat - 1 - k - (size.toNat - (k + 1)) = 0 from by omega]
          rfl
        rw [e] at h2
        exact h2
      case measure => simp [intOf]; omega
    · have hk' : k = size.toNat := by omega
      have hcv := hrow.conv size.toNat size.toNat hlen.symm
      rw [hk', Nat.sub_self, List.replicate_zero, List.nil_append] at hcv
      have HK := Lib.hid hk'
      clear hk' hlen
      go_wp2
      go_ret
      exact ⟨rfl, hbel⟩

set_option maxHeartbeats 400000 in
set_option maxRecDepth 100000 in
theorem put_no (n size : Int) (h1 : 1 ≤ size) (h7 : size ≤ 7) (h0 : n < 0) (w : World) :
    Calls Tryz.prog 49 #[.int .i64 n, .int .i64 size] w fun e w' => e = .returned (.string (bs [])) ∧ w' = w := by
  go_enter Tryz.func49, Tryz.ntmps49
  go_wp2
  go_ret
  exact ⟨rfl, rfl⟩

theorem put1 (n : Int) (h0 : 0 ≤ n) (h1 : n ≤ 255) (w : World) :
    Calls Tryz.prog 49 #[.int .i64 n, .int .i64 1] w fun e w' => e = .returned (.string (bs (putB 1 n.toNat))) ∧ Below w.heap.size w w' :=
  put_ok n 1 (by decide) (by decide) h0 (show n.toNat < 256 by omega) w
theorem put2 (n : Int) (h0 : 0 ≤ n) (h1 : n ≤ 65535) (w : World) :
    Calls Tryz.prog 49 #[.int .i64 n, .int .i64 2] w fun e w' => e = .returned (.string (bs (putB 2 n.toNat))) ∧ Below w.heap.size w w' :=
  put_ok n 2 (by decide) (by decide) h0 (show n.toNat < 65536 by omega) w
theorem put6 (n : Int) (h0 : 0 ≤ n) (h1 : n ≤ 281474976710655) (w : World) :
    Calls Tryz.prog 49 #[.int .i64 n, .int .i64 6] w fun e w' => e = .returned (.string (bs (putB 6 n.toNat))) ∧ Below w.heap.size w w' :=
  put_ok n 6 (by decide) (by decide) h0 (show n.toNat < 281474976710656 by omega) w
attribute [go_sem] putB_length
end Go.Proofs.YtjlcbabnkhdgpaaGreatDoor
