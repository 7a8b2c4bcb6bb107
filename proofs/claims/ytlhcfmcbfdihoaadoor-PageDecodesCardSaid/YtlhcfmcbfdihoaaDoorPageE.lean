/-
  Walks: a body is cut.
-/
import Derived.Test.YtlhcfmcbfdihoaaDoorPageD
namespace Go.Proofs.YtlhcfmcbfdihoaaDoor
open Go.RowKit

/-- Block g is a cutter. -/
def Cut (w : World) (g : Nat) (c : Cu) : Prop := w.heap[g]? = some (.cells #[.string (bs c.rest), .bool c.ok] 73 (0, 0))
theorem Cut.cells {w : World} {g : Nat} {c : Cu} (h : Cut w g c) : w.cell? ⟨g, 0, none⟩ = some (.string (bs c.rest)) ∧ w.cell? ⟨g, 1, none⟩ = some (.bool c.ok) ∧ w.frozen? ⟨g, 0, none⟩ = false ∧ w.frozen? ⟨g, 1, none⟩ = false := by
  unfold Cut at h
  refine ⟨?_, ?_, ?_, ?_⟩ <;> simp [World.cell?, World.frozen?, h]
theorem Cut.lt {w : World} {g : Nat} {c : Cu} (h : Cut w g c) : g < w.heap.size := heap_lt h
theorem Cut.set0 {w : World} {g : Nat} {c : Cu} (h : Cut w g c) (r : List UInt8) : Cut (w.setCell ⟨g, 0, none⟩ (.string (bs r))) g ⟨r, c.ok⟩ := by
  unfold Cut at *
  simp [World.setCell, Array.getElem?_modify, h]
theorem Cut.set1 {w : World} {g : Nat} {c : Cu} (h : Cut w g c) (r : Bool) : Cut (w.setCell ⟨g, 1, none⟩ (.bool r)) g ⟨c.rest, r⟩ := by
  unfold Cut at *
  simp [World.setCell, Array.getElem?_modify, h]
theorem grown_setCell (w : World) (g j : Nat) (v : Value) : w.grownBy (w.setCell ⟨g, j, none⟩ v) (some g) :=
  ⟨rfl, rfl, rfl, by simp [World.setCell], fun k _ hk => Below.heap_setCell _ _ _ _ (fun e => hk (by simp [e]))⟩

set_option maxHeartbeats 400000 in
theorem take_any (c : Cu) (n : Int) (g : Nat) (h0 : 0 ≤ n) (hn : n ≤ 1000000) (hl : c.rest.length ≤ 1000000) (w : World) (hc : Cut w g c) :
    Calls Tryd.prog 34 #[.pointer (some ⟨g, 0, none⟩), .int .i64 n] w fun e w' => e = .returned (.string (bs (c.got n.toNat))) ∧ Cut w' g (c.next n.toNat) ∧ w.grownBy w' (some g) := by
  obtain ⟨r, ok⟩ := c
  obtain ⟨n, rfl⟩ := Int.eq_ofNat_of_zero_le h0
  rw [Int.toNat_natCast]
  obtain ⟨c0, c1, f0, f1⟩ := hc.cells
  have HC := Lib.hid hc
  clear hc
  by_cases h : r.length < n
  · have e1 : (Cu.mk r ok).got n = [] := by simp [Cu.got, h]
    have e2 : (Cu.mk r ok).next n = ⟨r, false⟩ := by simp [Cu.next, h]
    rw [e1, e2]
    clear e1 e2
    go_enter Tryd.func34, Tryd.ntmps34
    go_wp2
    go_ret
    exact ⟨rfl, HC.out.set1 false, grown_setCell _ _ _ _⟩
  · have e1 : (Cu.mk r ok).got n = r.take n := by simp [Cu.got, h]
    have e2 : (Cu.mk r ok).next n = ⟨r.drop n, ok⟩ := by simp [Cu.next, h]
    rw [e1, e2]
    clear e1 e2
    have h' : n ≤ r.length := by omega
    go_enter Tryd.func34, Tryd.ntmps34
    go_wp2
    go_ret
    exact ⟨rfl, HC.out.set0 _, grown_setCell _ _ _ _⟩

set_option maxHeartbeats 400000 in
theorem number_any (c : Cu) (n : Int) (g : Nat) (h0 : 0 ≤ n) (hn : n ≤ 7) (hl : c.rest.length ≤ 1000000) (w : World) (hc : Cut w g c) :
    Calls Tryd.prog 33 #[.pointer (some ⟨g, 0, none⟩), .int .i64 n] w fun e w' => e = .returned (.int .i64 (getB (c.got n.toNat))) ∧ Cut w' g (c.next n.toNat) ∧ w.grownBy w' (some g) := by
  have hg := c.got_le n.toNat
  have h7 : (c.got n.toNat).length ≤ 7 := by omega
  have ct := take_any c n g h0 (by omega) hl w hc
  have HG := Lib.hid (get_any (c.got n.toNat) h7)
  clear hc hg h7
  go_enter Tryd.func33, Tryd.ntmps33
  go_wp2_with fail
  refine ct.mono ?_
  clear ct
  rintro e w1 ⟨rfl, hc1, hg1⟩
  go_wp2_with fail
  refine (HG.out _).mono ?_
  rintro e w2 ⟨rfl, rfl⟩
  go_wp2
  go_ret
  exact ⟨rfl, hc1, hg1⟩
end Go.Proofs.YtlhcfmcbfdihoaaDoor
