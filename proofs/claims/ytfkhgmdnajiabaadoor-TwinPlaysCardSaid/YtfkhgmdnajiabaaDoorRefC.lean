/-
  Walks: the document's answer for layer 2: Seal.
-/
import Derived.Test.YtfkhgmdnajiabaaDoorRefB
namespace Go.Proofs.YtfkhgmdnajiabaaDoor
set_option linter.unusedSimpArgs false
set_option linter.unusedVariables false
open Go.RowKit

theorem leB_take (n k : Nat) (hk : k < 4) : (leB n).take (k + 1) = (leB n).take k ++ [UInt8.ofNat (n / 256 ^ k % 256)] := by
  match k, hk with
  | 0, _ => simp [leB]
  | 1, _ => simp [leB]
  | 2, _ => simp [leB]
  | 3, _ => simp [leB]

set_option maxHeartbeats 800000 in
set_option maxRecDepth 100000 in
theorem refseal_any (l : List UInt8) (hl : l.length ≤ 140737488355300) (w : World) :
    Calls Tryd.prog 53 #[.string (bs l)] w fun e w' => e = .returned (.string (bs (sealB l))) ∧ Below w.heap.size w w' := by
  go_enter Tryd.func53, Tryd.ntmps53
  go_wp2_with fail
  refine (refsum_any l (by omega) w).mono ?_
  rintro e w2 ⟨rfl, hw⟩
  obtain rfl : w = w2 := hw.symm
  clear hw
  have hcl := crc_lt l
  obtain ⟨c0, h0⟩ : ∃ c, c = crc l := ⟨_, rfl⟩
  rw [← h0] at hcl ⊢
  have H0 := Lib.hid h0
  clear h0
  go_wp2
  go_loopg [0, 3, 4] 4 (fun g s c i wr => ∃ k : Nat, k ≤ 4 ∧ g = 4 - k ∧ i = .int .i64 k ∧ s = .string (bs (l ++ (leB c0).take k)) ∧ c = .int .u32 ((c0 / 256 ^ k : Nat) : Int) ∧ Below w.heap.size w wr)
  case atStart => exact ⟨0, Nat.zero_le _, rfl, rfl, by simp, by simp, Below.refl _ _⟩
  case round =>
    obtain ⟨k, hk, rfl, rfl, rfl, rfl, hbel⟩ := hrel
    by_cases hlt : k < 4
    · obtain ⟨m, hm⟩ : ∃ m, m = c0 / 256 ^ k := ⟨_, rfl⟩
      rw [← hm]
      have hml : m < 4294967296 := by rw [hm]; exact Nat.lt_of_le_of_lt (Nat.div_le_self _ _) hcl
      have hcv := conv1 wr m
      have hcb : Below w.heap.size w (wr.alloc (.cells #[.int .u8 ((m : Int) % 256)] 5)) := hbel.alloc hbel.size _
      have hln : (l ++ (leB c0).take k).length ≤ 140737488355310 := by
        have : ((leB c0).take k).length ≤ 4 := by simp [leB_length]; omega
        rw [List.length_append]; omega
      have HM := Lib.hid hm
      clear hm
      have HL : Hid (bs (l ++ (leB c0).take (k + 1)) = bs ((l ++ (leB c0).take k) ++ [UInt8.ofNat (m % 256)])) := by
        apply Lib.hid
        rw [leB_take _ _ hlt, List.append_assoc, HM.out]
      generalize l ++ (leB c0).take k = sk at *
      go_wp2
      go_roundg (4 - (k + 1))
      case measure => omega
      case rel =>
        refine ⟨k + 1, by omega, rfl, by go_num, by rw [HL.out], ?_, hcb⟩
        have : c0 / 256 ^ (k + 1) = m / 256 := by rw [Nat.pow_succ, ← Nat.div_div_eq_div_mul, HM.out]
        rw [this]
        congr 1
    · have hk' : k = 4 := by omega
      subst hk'
      go_wp2
      go_ret
      refine ⟨?_, hbel⟩
      rw [show (leB c0).take 4 = leB c0 from rfl, H0.out]
      rfl
end Go.Proofs.YtfkhgmdnajiabaaDoor
