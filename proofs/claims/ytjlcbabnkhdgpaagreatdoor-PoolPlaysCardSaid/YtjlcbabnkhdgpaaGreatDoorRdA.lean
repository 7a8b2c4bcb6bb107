/-
  The library's slices.Backward at the device's writes: its contract for a loop over it.
-/
import Derived.Test.YtjlcbabnkhdgpaaGreatDoorDevE
import Derived.RangeFuncNested
import Derived.RangeFuncBound
import Derived.RangeFuncCalls
import Derived.RangeFuncLeaves
import Derived.Shelf.Abstract
import Derived.Shelf.RegionOpen
import Derived.WalkKit
import Derived.OwnWalkIn
import Derived.TacticsInMore
import Derived.LoopNIn
import Derived.LoopIn
namespace Go.Proofs.YtjlcbabnkhdgpaaGreatDoor
set_option linter.unusedSimpArgs false
set_option linter.unusedVariables false
open Go.RowKit Go.Shelf
attribute [local go_sem] Oper.semAt_some

abbrev Wr := Int × List UInt8
/-- What has come when k rounds are over: f 0, .., f (k - 1). -/
def upto {α : Type} (f : Nat → α) (k : Nat) : List α := (List.range k).map f
theorem upto_succ {α : Type} (f : Nat → α) (k : Nat) : upto f (k + 1) = upto f k ++ [f k] := by simp [upto, List.range_succ]
theorem upto_length {α : Type} (f : Nat → α) (k : Nat) : (upto f k).length = k := by simp [upto]
/-- The k-th that comes. -/
def backAt (xs : List Wr) (k : Nat) : Nat × Wr := (xs.length - 1 - k, xs.getD (xs.length - 1 - k) (0, []))
def backEnc (x : Nat × Wr) : Array Value := #[.int .i64 (x.1 : Int), .agg #[.int .i64 x.2.1, .string (bs x.2.2)]]

set_option maxRecDepth 100000 in
set_option maxHeartbeats 2000000 in
theorem back1_in (F : Fence) (n : Nat) (hf : F.fn 115) (hro : F.round = none) (hn : 1 ≤ n) (l Bs n₀ b cap : Nat) (xs : List Wr) (hreach : xs.length ≤ 1000000000) (hb : b < n₀) (hBn : Bs < n₀) (J Jx : List (Nat × Wr) → World → Prop)
    (hY : ∀ pre x W, J pre W → pre.length < xs.length → YieldAt F (n - 1) Tryz.prog l (backEnc x) W fun e W' =>
      (e = .returned (.bool true) ∧ J (pre ++ [x]) W' ∧ Below n₀ W W') ∨ (e = .returned (.bool false) ∧ Jx (pre ++ [x]) W'))
    (W : World) (hBs : W.cell? ⟨Bs, 0, none⟩ = some (.slice (some ⟨b, 0, none⟩) xs.length cap))
    (hc : ∀ j, j < xs.length → W.cell? ⟨b, j * 2, none⟩ = some (.int .i64 (xs.getD j (0, [])).1) ∧ W.cell? ⟨b, j * 2 + 1, none⟩ = some (.string (bs (xs.getD j (0, [])).2))) (h0 : J [] W) :
    CallsIn F n Tryz.prog 115 #[.func (.yield l) #[] #[], .pointer (some ⟨Bs, 0, none⟩)] W fun e W' => (∃ v, e = .returned v) ∧
      ((∃ ys, ys = upto (backAt xs) xs.length ∧ J ys W') ∨ (∃ pre, (∃ k, k ≤ xs.length ∧ pre = upto (backAt xs) k) ∧ Jx pre W')) := by
  refine callsIn_of_wp Tryz.func115 rfl hf ?_ hro
  simp only [Tryz.ntmps115, List.size_toArray, List.length_cons, List.length_nil, Nat.reduceAdd, Nat.reduceSub, Array.replicate_succ, Array.replicate_zero, List.push_toArray, List.append_toArray, List.nil_append, List.cons_append]
  gi_wp2
  gi_loopw [3] (fun i wr => ∃ k : Nat, k ≤ xs.length ∧ i = .int .i64 ((xs.length : Int) - 1 - (k : Int)) ∧ J (upto (backAt xs) k) wr ∧ Below n₀ W wr)
    (fun i _ => (intOf i + 1).toNat)
  case atStart => exact ⟨0, Nat.zero_le _, by simp, h0, Below.refl _ _⟩
  case round =>
    obtain ⟨k, hk, rfl, hJs, hnx⟩ := hrel
    have hB := (hnx.cell (p := ⟨Bs, 0, none⟩) hBn).trans hBs
    by_cases hlt : k < xs.length
    · obtain ⟨j, hj⟩ : ∃ j, j = xs.length - 1 - k := ⟨_, rfl⟩
      have hjn : (xs.length : Int) - 1 - (k : Int) = (j : Int) := by omega
      have hjl : j < xs.length := by omega
      have hb1 := (hnx.cell (p := ⟨b, j * 2, none⟩) hb).trans (hc j hjl).1
      have hb2 := (hnx.cell (p := ⟨b, j * 2 + 1, none⟩) hb).trans (hc j hjl).2
      have hx : backAt xs k = (j, xs.getD j (0, [])) := by unfold backAt; rw [← hj]
      obtain ⟨fn, tmps, assign, body, hy, hR⟩ := hY _ (backAt xs k) wr hJs (by rw [upto_length]; exact hlt)
      rw [hx] at hy
      unfold backEnc at hy
      dsimp only at hy
      rw [hjn]
      generalize xs.getD j (0, []) = x at *
      have HJ := Lib.hid hj; have HJN := Lib.hid hjn
      clear hj hjn hx
      gi_wp2
      refine hR.mono ?_
      rintro e W3 (⟨rfl, hJ3, hk3⟩ | ⟨rfl, hJx3⟩)
      · gi_wp2
        go_roundw
        case rel => exact ⟨k + 1, by omega, by have := HJ.out; have := HJN.out; simp; omega, by rw [upto_succ]; exact hJ3, hnx.trans hk3⟩
        case measure => have := HJ.out; have := HJN.out; simp [intOf]
      · gi_wp2
        refine bodyPost_ret (results_none rfl _ _ _) rfl ?_
        exact ⟨⟨_, rfl⟩, .inr ⟨_, ⟨k + 1, by omega, (upto_succ _ _).symm⟩, hJx3⟩⟩
    · obtain rfl : k = xs.length := by omega
      gi_wp2
      go_end0
      exact ⟨⟨_, rfl⟩, .inl ⟨_, rfl, hJs⟩⟩

set_option maxRecDepth 100000 in
set_option maxHeartbeats 1000000 in
theorem back1_nil_in (F : Fence) (n : Nat) (hf : F.fn 115) (hro : F.round = none) (l Bs : Nat) (J : List (Nat × Wr) → World → Prop) (W : World) (hBs : W.cell? ⟨Bs, 0, none⟩ = some (.slice none 0 0)) (h0 : J [] W) :
    CallsIn F n Tryz.prog 115 #[.func (.yield l) #[] #[], .pointer (some ⟨Bs, 0, none⟩)] W fun e W' => (∃ v, e = .returned v) ∧ J [] W' := by
  refine callsIn_of_wp Tryz.func115 rfl hf ?_ hro
  simp only [Tryz.ntmps115, List.size_toArray, List.length_cons, List.length_nil, Nat.reduceAdd, Nat.reduceSub, Array.replicate_succ, Array.replicate_zero, List.push_toArray, List.append_toArray, List.nil_append, List.cons_append]
  gi_wp2
  gi_loopw [3] (fun i wr => i = .int .i64 (-1) ∧ J [] wr) (fun _ _ => 0)
  case atStart => exact ⟨rfl, h0⟩
  case round =>
    obtain ⟨rfl, hJs⟩ := hrel
    gi_wp2
    go_end0
    exact ⟨⟨_, rfl⟩, hJs⟩

set_option maxHeartbeats 1000000 in
/-- slices.Backward(s): the slice is boxed; the function value captures the box. -/
theorem backward_in (F : Fence) (n : Nat) (hf : F.fn 100) (hro : F.round = none) (a : Option Addr) (len cap : Nat) (w : World) :
    CallsIn F n Tryz.prog 100 #[.slice a len cap] w fun e w' => e = .returned (.func (.func 115) #[] #[.pointer (some ⟨w.heap.size, 0, none⟩)]) ∧ w' = w.alloc (.cells #[.slice a len cap] 72) := by
  refine callsIn_of_wp Tryz.func100 rfl hf ?_ hro
  simp only [Tryz.ntmps100, List.size_toArray, List.length_cons, List.length_nil, Nat.reduceAdd, Nat.reduceSub, Array.replicate_succ, Array.replicate_zero, List.push_toArray, List.append_toArray, List.nil_append, List.cons_append]
  gi_wp2
  go_ret
  exact ⟨rfl, rfl⟩

/-- What waits, in memory: below n₀. -/
def Waits (n₀ : Nat) (W : World) (v : Value) (xs : List Wr) : Prop :=
  (v = .slice none 0 0 ∧ xs = []) ∨ ∃ b cap, v = .slice (some ⟨b, 0, none⟩) xs.length cap ∧ b < n₀ ∧ ∀ j, j < xs.length → W.cell? ⟨b, j * 2, none⟩ = some (.int .i64 (xs.getD j (0, [])).1) ∧ W.cell? ⟨b, j * 2 + 1, none⟩ = some (.string (bs (xs.getD j (0, [])).2))
theorem Waits.below {n₀ : Nat} {A B : World} (h : Below n₀ A B) {v : Value} {xs : List Wr} : Waits n₀ A v xs → Waits n₀ B v xs
  | .inl e => .inl e
  | .inr ⟨b, cap, e, hb, hc⟩ => .inr ⟨b, cap, e, hb, fun j hj => ⟨(h.cell (p := ⟨b, j * 2, none⟩) hb).trans (hc j hj).1, (h.cell (p := ⟨b, j * 2 + 1, none⟩) hb).trans (hc j hj).2⟩⟩

theorem Waits.mono {n n' : Nat} {W : World} {v : Value} {xs : List Wr} (h : Waits n W v xs) (hn : n ≤ n') : Waits n' W v xs := by
  rcases h with e | ⟨b, cap, e, hb, hc⟩
  · exact .inl e
  · exact .inr ⟨b, cap, e, Nat.lt_of_lt_of_le hb hn, hc⟩

theorem back_stops (F : Fence) (n : Nat) (hf : F.fn 115) (hro : F.round = none) (hn : 1 ≤ n) (Bs n₀ : Nat) (v : Value) (xs : List Wr) (hreach : xs.length ≤ 1000000000) (w : World) (hBs : Bs < n₀) (hn₀ : n₀ ≤ w.heap.size)
    (hc : w.cell? ⟨Bs, 0, none⟩ = some v) (hI : Waits n₀ w v xs) :
    SeqStopsK F n Tryz.prog 115 #[.pointer (some ⟨Bs, 0, none⟩)] backEnc (Below n₀) (fun ys => ys = upto (backAt xs) xs.length)
      (fun pre => ∃ k, k ≤ xs.length ∧ pre = upto (backAt xs) k) xs.length w := fun l J Jx W hW _ _ hY h0 => by
  have hc' := (hW.cell (p := ⟨Bs, 0, none⟩) (Nat.lt_of_lt_of_le hBs hn₀)).trans hc
  rcases hI.below (hW.mono hn₀) with ⟨rfl, rfl⟩ | ⟨b, cap, rfl, hb, hcs⟩
  · exact (back1_nil_in F n hf hro l Bs J W hc' h0).mono fun e W' ⟨he, hj⟩ => ⟨he, .inl ⟨_, rfl, hj⟩⟩
  · exact back1_in F n hf hro hn l Bs n₀ b cap xs hreach hb hBs J Jx hY W hc' hcs h0
end Go.Proofs.YtjlcbabnkhdgpaaGreatDoor
