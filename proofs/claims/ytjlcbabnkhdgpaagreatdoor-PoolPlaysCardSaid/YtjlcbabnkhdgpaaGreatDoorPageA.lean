/-
  Walks: sizes of entries and pages.
-/
import Derived.Test.YtjlcbabnkhdgpaaGreatDoorSumC
import Derived.Test.YtjlcbabnkhdgpaaGreatDoorEnt
namespace Go.Proofs.YtjlcbabnkhdgpaaGreatDoor
open Go.RowKit

set_option maxHeartbeats 400000 in
theorem size_any (k v : List UInt8) (m : Bool) (hk : k.length ≤ 1000000) (hv : v.length ≤ 1000000) (w : World) :
    Calls Tryz.prog 74 #[.agg #[.string (bs k), .string (bs v), .bool m]] w fun e w' => e = .returned (.int .i64 ((3 + k.length + v.length : Nat) : Int)) ∧ Below w.heap.size w w' := by
  go_enter Tryz.func74, Tryz.ntmps74
  go_wp2
  go_ret
  exact ⟨ret_int (by omega), (Below.refl _ _).alloc (Nat.le_refl _) _⟩

set_option maxHeartbeats 400000 in
theorem free_any (p : Pg) (A : Option Addr) (c : Nat) (hs : Small p) (w : World) (hr : ReadsE w w.heap.size A p.ents) :
    Calls Tryz.prog 47 #[.agg #[.int .i64 p.lsn, .int .i64 p.kind, .int .i64 p.level, .int .i64 p.right, .string (bs p.high), .slice A p.ents.length c]] w
      fun e w' => e = .returned (.int .i64 (freeOf p)) ∧ Below w.heap.size w w' := by
  obtain ⟨hh, hE⟩ := hs
  have hn := hE.1
  have HR := Lib.hid hr
  have HE := Lib.hid hE
  clear hr hE
  go_enter Tryz.func47, Tryz.ntmps47
  go_wp2
  go_loopw [3, 13] (fun n i wr => ∃ k : Nat, k ≤ p.ents.length ∧ i = .int .i64 k ∧ n = .int .i64 (489 - (p.high.length : Int) - (sizes (p.ents.take k) : Int)) ∧ Below w.heap.size w wr) (fun _ i _ => p.ents.length - (intOf i).toNat)
  case atStart => exact ⟨0, Nat.zero_le _, rfl, by simp [sizes], (Below.refl _ _).alloc (Nat.le_refl _) _⟩
  case round =>
    obtain ⟨k, hk, rfl, rfl, hbel⟩ := hrel
    have hsz := sizes_take_le HE.out k hk
    by_cases hlt : k < p.ents.length
    · obtain ⟨b, o, rfl, hb, c0, c1, c2⟩ := (HR.out.below hbel).at_ k hlt
      have he := HE.out.2 p.ents[k] (List.getElem_mem hlt)
      obtain ⟨he1, he2⟩ := he
      go_wp2_with (go_at_call 74; refine (size_any _ _ _ he1 he2 _).mono ?_; rintro e w' ⟨rfl, hb2⟩)
      go_roundw
      case rel =>
        refine ⟨k + 1, by omega, by go_num, ?_, ?_⟩
        · rw [List.take_succ_eq_append_getElem hlt, sizes_snoc]; unfold entSize; go_num
        · exact (hbel.alloc hbel.size _).trans (hb2.mono (by have := hbel.size; simp; omega))
      case measure => simp [intOf]; omega
    · go_wp2
      go_ret
      exact ⟨ret_int (by rw [List.take_of_length_le (by omega)]; rfl), hbel⟩
end Go.Proofs.YtjlcbabnkhdgpaaGreatDoor
