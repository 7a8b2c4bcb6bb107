/-
  Walks: the document's answer for layer 2: Put, Get, Sum, Seal.
-/
import Derived.Test.YtlhcfmcbfdihoaaDoorSumC
namespace Go.Proofs.YtlhcfmcbfdihoaaDoor
set_option linter.unusedSimpArgs false
set_option linter.unusedVariables false
open Go.RowKit

set_option maxHeartbeats 400000 in
set_option maxRecDepth 100000 in
theorem refget_any (l : List UInt8) (hl : l.length ≤ 7) (w : World) :
    Calls Tryd.prog 39 #[.string (bs l)] w fun e w' => e = .returned (.int .i64 (getB l)) ∧ w' = w := by
  go_enter Tryd.func39, Tryd.ntmps39
  go_wp2
  go_loop [3, 4] (fun n i => ∃ k : Nat, k ≤ l.length ∧ i = .int .i64 k ∧ n = .int .i64 (getB (l.take k))) (fun _ i => l.length - (intOf i).toNat)
  case atStart => exact ⟨0, Nat.zero_le _, rfl, rfl⟩
  case round =>
    obtain ⟨k, hk, rfl, rfl⟩ := hrel
    by_cases hlt : k < l.length
    · go_wp2
      go_round
      case rel =>
        refine ⟨k + 1, by omega, by go_num, ?_⟩
        have hb := getB_lt (l.take k)
        rw [List.length_take, Nat.min_eq_left (by omega)] at hb
        have h7 : 256 ^ k ≤ 256 ^ 6 := Nat.pow_le_pow_right (by decide) (by omega)
        have hx := (l[k]'hlt).toNat_lt
        rw [bs_get, List.take_succ_eq_append_getElem hlt, getB_snoc]
        congr 1
        unfold wrap64
        omega
      case measure => simp [intOf]; omega
    · go_wp2
      go_ret
      exact ⟨ret_int (by rw [List.take_of_length_le (by omega)]), rfl⟩

/-- One byte of a number, as a string. -/
theorem conv1 (w : World) (m : Nat) : (convert 53 9 (.slice (some ⟨w.heap.size, 0, none⟩) 1 1)).run Tryd.prog (w.alloc (.cells #[.int .u8 ((m : Int) % 256)] 5)) = .ok (.string (bs [UInt8.ofNat (m % 256)])) (w.alloc (.cells #[.int .u8 ((m : Int) % 256)] 5)) := by
  have h := (RowB.made w [UInt8.ofNat (m % 256)]).conv 1 1 rfl
  have e : (Lib.byteCells [UInt8.ofNat (m % 256)]).toArray = #[.int .u8 ((m : Int) % 256)] := by
    simp only [Lib.byteCells, List.map_cons, List.map_nil]
    have : ((UInt8.ofNat (m % 256)).toNat : Int) = (m : Int) % 256 := by
      simp
    rw [this]
  rw [e] at h
  exact h

set_option maxHeartbeats 400000 in
set_option maxRecDepth 100000 in
theorem refput_ok (n : Nat) (size : Int) (h1 : 1 ≤ size) (h7 : size ≤ 7) (hn : n < 256 ^ size.toNat) (w : World) :
    Calls Tryd.prog 29 #[.int .i64 n, .int .i64 size] w fun e w' => e = .returned (.string (bs (putB size.toNat n))) ∧ Below w.heap.size w w' := by
  have HN := Lib.hid hn
  clear hn
  go_enter Tryd.func29, Tryd.ntmps29
  go_wp2
  go_loopw [0, 5, 6] (fun m s i wr => ∃ k : Nat, k ≤ size.toNat ∧ i = .int .i64 k ∧ s = .string (bs (putB k n)) ∧ m = .int .i64 ((n / 256 ^ k : Nat) : Int) ∧ Below w.heap.size w wr) (fun _ _ i _ => size.toNat - (intOf i).toNat)
  case atStart => exact ⟨0, Nat.zero_le _, rfl, rfl, by simp, Below.refl _ _⟩
  case round =>
    obtain ⟨k, hk, rfl, rfl, rfl, hbel⟩ := hrel
    by_cases hlt : k < size.toNat
    · obtain ⟨m, hm⟩ : ∃ m, m = n / 256 ^ k := ⟨_, rfl⟩
      rw [← hm]
      have hml : m < 256 ^ 7 := by
        rw [hm]
        refine Nat.lt_of_le_of_lt (Nat.div_le_self _ _) (Nat.lt_of_lt_of_le HN.out ?_)
        exact Nat.pow_le_pow_right (by decide) (by omega)
      have hcv := conv1 wr m
      have hcb : Below w.heap.size w (wr.alloc (.cells #[.int .u8 ((m : Int) % 256)] 5)) := hbel.alloc hbel.size _
      have HM := Lib.hid hm; have HML := Lib.hid hml
      clear hm hml
      go_wp2
      go_roundw
      case rel =>
        refine ⟨k + 1, by omega, by go_num, ?_, ?_, hcb⟩
        · rw [putB_cons, ← HM.out]
        · have h1 := HML.out
          have : n / 256 ^ (k + 1) = m / 256 := by rw [Nat.pow_succ, ← Nat.div_div_eq_div_mul, HM.out]
          rw [this]
          congr 1
          unfold wrap64
          omega
      case measure => simp [intOf]; omega
    · have hk' : k = size.toNat := by omega
      have hz : n / 256 ^ k = 0 := by rw [hk']; exact Nat.div_eq_of_lt HN.out
      rw [hz]
      rw [hk']
      clear hz hk'
      go_wp2
      go_ret
      exact ⟨rfl, hbel⟩
end Go.Proofs.YtlhcfmcbfdihoaaDoor
