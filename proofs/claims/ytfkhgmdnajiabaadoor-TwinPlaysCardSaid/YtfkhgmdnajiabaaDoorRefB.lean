/-
  Walks: the document's answer for layer 2: Sum, Seal.
-/
import Derived.Test.YtfkhgmdnajiabaaDoorRefA
import Derived.Deep.LoopGhost
namespace Go.Proofs.YtfkhgmdnajiabaaDoor
set_option linter.unusedSimpArgs false
set_option linter.unusedVariables false
open Go.RowKit

theorem refBits_lt (r x : Nat) (h : r < 4294967296) (j : Nat) : refBits r x j < 4294967296 := by
  induction j with
  | zero => exact h
  | succ j ih =>
    rw [refBits, refBit]
    split
    · exact Nat.xor_lt_two_pow (n := 32) (by omega) (by decide)
    · omega

set_option maxHeartbeats 800000 in
set_option maxRecDepth 100000 in
theorem refsum_any (l : List UInt8) (hl : l.length ≤ 140737488355328) (w : World) :
    Calls Tryd.prog 72 #[.string (bs l)] w fun e w' => e = .returned (.int .u32 (crc l)) ∧ w' = w := by
  go_enter Tryd.func72, Tryd.ntmps72
  go_wp2
  go_loopg [3, 4] l.length (fun g n i wr => w = wr ∧ ∃ k : Nat, k ≤ l.length ∧ g = l.length - k ∧ i = .int .i64 k ∧ n = .int .u32 (crcReg (l.take k)))
  case atStart => exact ⟨rfl, 0, Nat.zero_le _, rfl, rfl, rfl⟩
  case round =>
    obtain ⟨rfl, k, hk, rfl, rfl, rfl⟩ := hrel
    have hr := crcReg_lt (l.take k)
    by_cases hlt : k < l.length
    · obtain ⟨a, ha⟩ : ∃ a, a = crcReg (l.take k) := ⟨_, rfl⟩
      rw [← ha] at hr ⊢
      have HA := Lib.hid ha
      clear ha
      go_wp2
      go_loopg [3, 5] 8 (fun g n b wr => w = wr ∧ ∃ j : Nat, j ≤ 8 ∧ g = 8 - j ∧ b = .int .i64 j ∧ n = .int .u32 (refBits a (l[k]'hlt).toNat j : Nat))
      case atStart => exact ⟨rfl, 0, Nat.zero_le _, rfl, rfl, rfl⟩
      case round =>
        obtain ⟨rfl, j, hj, rfl, rfl, rfl⟩ := hrel
        by_cases hjl : j < 8
        · obtain ⟨r0, h0⟩ : ∃ r, r = refBits a (l[k]'hlt).toNat j := ⟨_, rfl⟩
          have hr0 : r0 < 4294967296 := by rw [h0]; exact refBits_lt _ _ hr j
          rw [← h0]
          have hx := (l[k]'hlt).toNat_lt
          have hy : (l[k]'hlt).toNat / 2 ^ j < 4294967296 := Nat.lt_of_le_of_lt (Nat.div_le_self _ _) (by omega)
          obtain ⟨q, hq⟩ : ∃ q, q = r0 ^^^ (l[k]'hlt).toNat / 2 ^ j := ⟨_, rfl⟩
          have e1 : bits .xor .u32 (r0 : Int) ((((bs l)[k]'(by simpa using hlt)).toNat : Int) % 4294967296 / 2 ^ j) = (q : Int) := by
            rw [bs_get, show ((((l[k]'hlt).toNat : Nat) : Int) % 4294967296) = (((l[k]'hlt).toNat : Nat) : Int) from by omega]
            rw [show (((l[k]'hlt).toNat : Nat) : Int) / 2 ^ j = (((l[k]'hlt).toNat / 2 ^ j : Nat) : Int) from by simp, bits_xor32 _ _ hr0 hy, hq]
          have e3 : bits .xor .u32 ((r0 : Int) / 2) 3988292384 = ((r0 / 2 ^^^ 3988292384 : Nat) : Int) := by
            rw [show (r0 : Int) / 2 = ((r0 / 2 : Nat) : Int) from by omega]
            exact bits_xor32 _ 3988292384 (by omega) (by decide)
          have H0 : Hid (refBits a (l[k]'hlt).toNat (j + 1) = if q % 2 = 1 then r0 / 2 ^^^ 3988292384 else r0 / 2) := by
            apply Lib.hid
            rw [refBits, refBit, ← h0, hq]
          have e4 : (r0 : Int) / 2 % 4294967296 = (r0 : Int) / 2 := by omega
          clear h0 hq hy hx
          by_cases hb : q % 2 = 1
          · have e2 : ((q : Int).tmod 2 == 1) = true := by rw [Int.tmod_eq_emod_of_nonneg (by omega)]; simp; omega
            have e2' : ((q : Int) % 2 == 1) = true := by simp; omega
            have HB := Lib.hid hb
            clear hb
            go_wp2
            go_roundg (8 - (j + 1))
            case measure => omega
            case rel => exact ⟨rfl, j + 1, by omega, rfl, by go_num, by rw [H0.out, if_pos HB.out]⟩
          · have e2 : ((q : Int).tmod 2 == 1) = false := by rw [Int.tmod_eq_emod_of_nonneg (by omega)]; simp; omega
            have e2' : ((q : Int) % 2 == 1) = false := by simp; omega
            have HB := Lib.hid hb
            clear hb e3
            go_wp2
            go_roundg (8 - (j + 1))
            case measure => omega
            case rel => exact ⟨rfl, j + 1, by omega, rfl, by go_num, by rw [H0.out, if_neg HB.out]; go_num⟩
        · have hj8 : j = 8 := by omega
          subst hj8
          rw [refByte_eq]
          go_wp2
          go_roundg (l.length - (k + 1))
          case measure => omega
          case rel => exact ⟨rfl, k + 1, by omega, rfl, by go_num, by rw [List.take_succ_eq_append_getElem hlt, crcReg_snoc, ← HA.out]⟩
    · go_wp2
      go_ret
      refine ⟨ret_int ?_, rfl⟩
      rw [List.take_of_length_le (by omega)]
      rw [List.take_of_length_le (by omega)] at hr
      unfold crc
      omega
end Go.Proofs.YtfkhgmdnajiabaaDoor
