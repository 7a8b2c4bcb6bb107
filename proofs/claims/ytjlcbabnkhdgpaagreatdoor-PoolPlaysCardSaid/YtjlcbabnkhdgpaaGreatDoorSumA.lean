/-
  Walks: numbers of fixed length.
-/
import Derived.Test.YtjlcbabnkhdgpaaGreatDoorBase
import Derived.Test.YtjlcbabnkhdgpaaGreatDoorPlain
namespace Go.Proofs.YtjlcbabnkhdgpaaGreatDoor
open Go.RowKit

set_option maxHeartbeats 400000 in
theorem within_any (a b c : Int) (w : World) :
    Calls Tryz.prog 71 #[.int .i64 a, .int .i64 b, .int .i64 c] w fun e w' => e = .returned (.bool (withinB a b c)) ∧ w' = w := by
  by_cases h : b ≤ a
  · have hb : decide (b ≤ a) = true := by simpa using h
    go_enter Tryz.func71, Tryz.ntmps71
    go_wp2
    go_ret
    exact ⟨by simp [withinB, hb], rfl⟩
  · have hb : decide (b ≤ a) = false := by simpa using h
    go_enter Tryz.func71, Tryz.ntmps71
    go_wp2
    go_ret
    exact ⟨by simp [withinB, hb], rfl⟩

set_option maxHeartbeats 400000 in
theorem get_any (l : List UInt8) (hl : l.length ≤ 7) (w : World) :
    Calls Tryz.prog 96 #[.string (bs l)] w fun e w' => e = .returned (.int .i64 (getB l)) ∧ w' = w := by
  go_enter Tryz.func96, Tryz.ntmps96
  go_wp2
  go_loop [3, 10] (fun n i => ∃ k : Nat, k ≤ l.length ∧ i = .int .i64 k ∧ n = .int .i64 (getB (l.take k))) (fun _ i => l.length - (intOf i).toNat)
  case atStart => exact ⟨0, Nat.zero_le _, rfl, rfl⟩
  case round =>
    obtain ⟨k, hk, rfl, rfl⟩ := hrel
    by_cases hlt : k < l.length
    · go_wp2
      go_round
      case rel =>
        refine ⟨k + 1, by omega, by go_num, ?_⟩
        have hb := getB_lt (l.take k)
        rw [List.length_take, Nat.min_eq_left (by omega)] at hb
        have h7 : 256 ^ k ≤ 256 ^ 6 := Nat.pow_le_pow_right (by decide) (by omega)
        rw [bs_get, or64 _ _ (by omega) (UInt8.toNat_lt _), List.take_succ_eq_append_getElem hlt, getB_snoc]
      case measure => simp [intOf]; omega
    · go_wp2
      go_ret
      exact ⟨ret_int (by rw [List.take_of_length_le (by omega)]), rfl⟩
end Go.Proofs.YtjlcbabnkhdgpaaGreatDoor
