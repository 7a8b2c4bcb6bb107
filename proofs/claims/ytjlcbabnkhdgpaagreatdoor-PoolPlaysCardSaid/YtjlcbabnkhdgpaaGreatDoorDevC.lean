/-
  Walks: the device's New, Write.
-/
import Derived.Test.YtjlcbabnkhdgpaaGreatDoorDevB
import Derived.Carry
import Derived.Deep.AppendLies
import Derived.Deep.DeepCutAuto
namespace Go.Proofs.YtjlcbabnkhdgpaaGreatDoor
set_option linter.unusedSimpArgs false
set_option linter.unusedVariables false
open Go.RowKit Go.Maps

set_option maxHeartbeats 800000 in
set_option maxRecDepth 100000 in
theorem devnew_ok (n0 : Nat) (n : Int) (h1 : 1 ≤ n) (h2 : n ≤ 4096) (w : World) (hn : n0 ≤ w.heap.size) :
    Calls Tryz.prog 8 #[.int .i64 n] w fun e w' => e = .returned (.tuple #[.pointer (some ⟨w.heap.size + 1, 0, none⟩), .int .i64 0]) ∧ Dev n0 w' (w.heap.size + 1) (newM n) ∧ Below w.heap.size w w' := by
  have hmm := @run_makeMap Tryz.prog
  have e1 : Below w.heap.size w (w.alloc (.map #[] 0)) := (Below.refl _ _).alloc (Nat.le_refl _) _
  have z1 : (w.alloc (.map #[] 0)).heap.size = w.heap.size + 1 := by simp
  have m1 := MapIs.made w
  have b1 := Blk.made (w.alloc (.map #[] 0)) #[.int .i64 n, .map (some w.heap.size), .slice none 0 0, .bool false, .int .i64 0, .slice none 0 0, .int .i64 0] 74
  rw [z1] at b1
  have e2 : Below w.heap.size w ((w.alloc (.map #[] 0)).alloc (.cells #[.int .i64 n, .map (some w.heap.size), .slice none 0 0, .bool false, .int .i64 0, .slice none 0 0, .int .i64 0] 74)) := e1.alloc e1.size _
  have hD : Dev n0 ((w.alloc (.map #[] 0)).alloc (.cells #[.int .i64 n, .map (some w.heap.size), .slice none 0 0, .bool false, .int .i64 0, .slice none 0 0, .int .i64 0] 74)) (w.heap.size + 1) (newM n) := by
    unfold Dev DevAt
    exact ⟨w.heap.size, .slice none 0 0, .slice none 0 0, ⟨by omega, hn⟩, b1, m1.up ((Below.refl _ _).alloc (Nat.le_refl _) _), World.ownsRow_nil _ _ _ _, World.ownsRow_nil _ _ _ _, newM_fits h1 h2, Nat.le_trans hn e2.size⟩
  have HD := Lib.hid hD; have HB := Lib.hid e2
  clear e1 z1 m1 b1 e2 hD
  go_enter Tryz.func8, Tryz.ntmps8
  go_wp2
  go_ret2
  exact ⟨rfl, HD.out, HB.out⟩

set_option maxHeartbeats 800000 in
set_option maxRecDepth 100000 in
theorem devnew_no (n : Int) (h : n < 1 ∨ 4096 < n) (w : World) :
    Calls Tryz.prog 8 #[.int .i64 n] w fun e w' => e = .returned (.tuple #[.pointer none, .int .i64 1]) ∧ w = w' := by
  by_cases h1 : n < 1
  · clear h
    go_enter Tryz.func8, Tryz.ntmps8
    go_wp2
    go_ret2
    exact ⟨rfl, rfl⟩
  · have h2 : 4096 < n := by omega
    clear h
    go_enter Tryz.func8, Tryz.ntmps8
    go_wp2
    go_ret2
    exact ⟨rfl, rfl⟩

section
variable {w w' : World} {n0 g m : Nat} {v kv : Value} {d : DevM}
/-- A write waits: the row of what waits has grown, and is stored anew. -/
theorem DevAt.grow {w1 : World} {v' : Value} (h : DevAt n0 w g m v kv d) (hg : w.grownBy w1 v.ownBlock) (i : Int) (s : List UInt8) (hi : 0 ≤ i ∧ i < d.size) (hs : s.length = 256) (hc : d.wait.length + 1 ≤ d.cmds)
    (ho : w1.ownsRow n0 100 2 v' (d.wait.length + 1) (waitCells d.wait ++ [.int .i64 i, .string (bs s)])) :
    Blk w1 g 74 #[.int .i64 d.size, .map (some m), v, .bool d.off, .int .i64 d.fuse, kv, .int .i64 (d.cmds : Int)] ∧
    DevAt n0 (w1.setCell ⟨g, 2, none⟩ v') g m v' kv { d with wait := d.wait ++ [(i, s)] } ∧ Kept n0 g m w (w1.setCell ⟨g, 2, none⟩ v') := by
  unfold DevAt at h
  obtain ⟨h1, h2, h3, h4, h5, h6, h7⟩ := h
  have q1 : some g ≠ v.ownBlock := h2.notOwn h4 (by decide)
  have q2 : some m ≠ v.ownBlock := by
    intro e
    obtain ⟨_, _, _, hm, _⟩ := h3
    obtain ⟨es, c, hb, _⟩ := hm
    obtain ⟨_, hh⟩ := h4
    rcases hh with ⟨hv, _⟩ | ⟨g', cap, cur, hv, hg', hh, _⟩
    · subst hv; simp [Value.ownBlock] at e
    · subst hv; simp [Value.ownBlock] at e; subst e; rw [hb] at hh; cases hh
  have b2 := h2.grown hg q1
  have m2 := h3.kept hg q2
  have k2 := own_own h5 h4 (by decide) hg
  have hs2 := grown_setCell w1 g 2 v'
  have hmg : some m ≠ some g := by
    intro e
    injection e with e
    subst e
    obtain ⟨_, _, _, hm, _⟩ := m2
    obtain ⟨es, c, hb, _⟩ := hm
    unfold Blk at b2
    rw [b2] at hb
    cases hb
  have hsz : w.heap.size ≤ w1.heap.size := hg.size
  refine ⟨b2, ?_, ?_⟩
  · unfold DevAt
    refine ⟨h1, by simpa using b2.set 2 v', m2.kept hs2 hmg, ?_, own_grown k2 b2 (by decide) hs2, ⟨h6.1, ?_, h6.2.2.1, ⟨h6.2.2.2.1.1, by simpa using hc⟩, h6.2.2.2.2⟩, ?_⟩
    · have := own_grown ho b2 (by decide) hs2
      rw [waitCells_snoc, List.length_append]
      exact this
    · intro x hx
      rcases List.mem_append.1 hx with hx | hx
      · exact h6.2.1 x hx
      · obtain rfl : x = (i, s) := by simpa using hx
        exact ⟨hi, hs⟩
    · simp [World.setCell]; omega
  · unfold Kept
    have below1 : Below n0 w w1 := (Below.refl n0 w).grown hg h7 (fun k e => (h4.lt k e).1)
    refine ⟨below1.setCell (p := ⟨g, 2, none⟩) h1.1 v', fun b o hob hkg hkm hkw => ?_, KeepC.of_cell ((World.cell?_setCell_other _ _ _ _ (by simp)).trans ?_)⟩
    rotate_left
    · exact (hg.cell (show w.cell? ⟨g, 5, none⟩ = some kv from h2.cell 5) (h2.notOwn h4 (by decide))).trans (show w.cell? ⟨g, 5, none⟩ = some kv from h2.cell 5).symm
    have c1 : some b ≠ v.ownBlock := by
      intro e
      obtain ⟨_, hh⟩ := h4
      rcases hh with ⟨hv, _⟩ | ⟨g', cap, cur, hv, hg', hh, _⟩
      · subst hv; simp [Value.ownBlock] at e
      · subst hv; simp [Value.ownBlock] at e; subst e; rw [hob] at hh; cases hh; exact hkw _ _ rfl
    have c2 : some b ≠ some g := fun e => hkg (by simpa using e)
    have hlt := heap_lt hob
    exact (hs2.block b (Nat.lt_of_lt_of_le hlt hsz) c2).trans ((hg.block b hlt c1).trans hob)
end
theorem info_write : ∃ i z, Tryz.prog.info? 100 = some i ∧ i.zero = some z ∧ i.size = 2 ∧ i.bytes = 24 ∧ z.cells.size = 2 := by
  have h : (Tryz.prog.info? 100).bind (fun i => i.zero.map fun z => (i.size, i.bytes, z.cells.size)) = some (2, 24, 2) := by kernel_rfl
  cases hi : Tryz.prog.info? 100 with
  | none => rw [hi] at h; simp at h
  | some i =>
    rw [hi] at h
    cases hz : i.zero with
    | none => simp [hz] at h
    | some z =>
      simp [hz] at h
      exact ⟨i, z, rfl, hz, h.1, h.2.1, h.2.2⟩
/-- What lasts when all of these were stored, one behind the other. -/
def putAll (f : Int → Option (List UInt8)) (l : List (Int × List UInt8)) : Int → Option (List UInt8) := l.foldl (fun f x => fun j => if j = x.1 then some x.2 else f j) f
theorem putAll_snoc (f : Int → Option (List UInt8)) (l : List (Int × List UInt8)) (x : Int × List UInt8) : putAll f (l ++ [x]) = fun j => if j = x.1 then some x.2 else putAll f l j := by simp [putAll]
theorem waitCells_length (l : List (Int × List UInt8)) : (waitCells l).length = l.length * 2 := by
  induction l with
  | nil => rfl
  | cons e l ih => simp only [waitCells, List.flatMap_cons, List.length_append, List.length_cons] at *; rw [ih]; simp; omega
theorem waitCells_at (l : List (Int × List UInt8)) (k : Nat) (hk : k < l.length) : (waitCells l)[k * 2]? = some (.int .i64 l[k].1) ∧ (waitCells l)[k * 2 + 1]? = some (.string (bs l[k].2)) := by
  induction l generalizing k with
  | nil => simp at hk
  | cons e l ih =>
    have e0 : waitCells (e :: l) = [.int .i64 e.1, .string (bs e.2)] ++ waitCells l := by simp [waitCells]
    rw [e0]
    cases k with
    | zero => simp
    | succ k =>
      have hl : ([.int .i64 e.1, .string (bs e.2)] : List Value).length = 2 := rfl
      rw [List.getElem?_append_right (by simp; omega), List.getElem?_append_right (by simp; omega), hl, show (k + 1) * 2 - 2 = k * 2 by omega, show (k + 1) * 2 + 1 - 2 = k * 2 + 1 by omega]
      exact ih k (by simpa using hk)
section
variable {w w' : World} {n0 g m : Nat} {v kv : Value} {d : DevM}
/-- What waits, by its places. -/
theorem DevAt.waits (h : DevAt n0 w g m v kv d) : ∃ A cap, v = .slice A d.wait.length cap ∧ ∀ k (hk : k < d.wait.length), ∃ gb, A = some ⟨gb, 0, none⟩ ∧ w.cell? ⟨gb, k * 2, none⟩ = some (.int .i64 d.wait[k].1) ∧ w.cell? ⟨gb, k * 2 + 1, none⟩ = some (.string (bs d.wait[k].2)) := by
  unfold DevAt at h
  have ho := h.2.2.2.1
  have ho' := ho
  obtain ⟨hx, hh⟩ := ho
  rcases hh with ⟨hv, hn⟩ | ⟨gb, cap, cur, hv, _, _, _, _⟩
  · refine ⟨none, 0, by rw [hv, hn], fun k hk => by omega⟩
  · refine ⟨some ⟨gb, 0, none⟩, cap, hv, fun k hk => ⟨gb, rfl, ?_, ?_⟩⟩
    · have := ho'.cells (g := gb) (by rw [hv]; rfl) _ _ (waitCells_at d.wait k hk).1
      have e : (⟨gb, 0, none⟩ : Addr).add (k * 2) = ⟨gb, k * 2, none⟩ := by unfold Addr.add; split <;> simp_all
      rw [e] at this
      exact this
    · have := ho'.cells (g := gb) (by rw [hv]; rfl) _ _ (waitCells_at d.wait k hk).2
      have e : (⟨gb, 0, none⟩ : Addr).add (k * 2 + 1) = ⟨gb, k * 2 + 1, none⟩ := by unfold Addr.add; split <;> simp_all
      rw [e] at this
      exact this
theorem DevAt.lasts (h : DevAt n0 w g m v kv d) : MapIs w m d.last d.puts := by unfold DevAt at h; exact h.2.2.1
/-- A store into what lasts. -/
theorem DevAt.put {w1 : World} {f : Int → Option (List UInt8)} (h : DevAt n0 w g m v kv d) (hm : MapIs w1 m f (d.puts + 1)) (hg : w.grownBy w1 (some m)) (hf : ∀ i s, f i = some s → s.length = 256) (hpl : d.puts + 1 ≤ d.cmds) :
    DevAt n0 w1 g m v kv { d with last := f, puts := d.puts + 1 } ∧ Kept n0 g m w w1 := by
  unfold DevAt at h
  obtain ⟨h1, h2, h3, h4, h5, h6, h7⟩ := h
  have hmo : ∃ es c, w.heap[m]? = some (.map es c) := by
    obtain ⟨_, _, _, ho, _⟩ := h3
    obtain ⟨es, c, hb, _⟩ := ho
    exact ⟨es, c, hb⟩
  obtain ⟨es, c, hmo⟩ := hmo
  have q1 : some g ≠ some m := by
    intro e
    injection e with e
    subst e
    unfold Blk at h2
    rw [h2] at hmo
    cases hmo
  have qr : ∀ gg, some m = some gg → ∀ (T : TypeId) cs fz, w.heap[gg]? ≠ some (.cells cs T fz) := by
    intro gg e T cs fz hh
    injection e with e
    subst e
    rw [hmo] at hh
    cases hh
  refine ⟨?_, ?_⟩
  · unfold DevAt
    exact ⟨h1, h2.grown hg q1, hm, ownsRow_grown h4 hg (fun gg e cs fz => qr gg e _ cs fz), ownsRow_grown h5 hg (fun gg e cs fz => qr gg e _ cs fz), ⟨h6.1, h6.2.1, hf, ⟨hpl, h6.2.2.2.1.2⟩, h6.2.2.2.2⟩, Nat.le_trans h7 hg.size⟩
  · unfold Kept
    refine ⟨(Below.refl n0 w).grown hg h7 (fun k e => by injection e with e; omega), fun b o hob hkg hkm hkw => (hg.block b (heap_lt hob) (fun e => hkm (by simpa using e))).trans hob, KeepC.of_cell ((hg.cell (show w.cell? ⟨g, 5, none⟩ = some kv from h2.cell 5) q1).trans (show w.cell? ⟨g, 5, none⟩ = some kv from h2.cell 5).symm)⟩
/-- Nothing waits any more. -/
theorem DevAt.none_ (h : DevAt n0 w g m v kv d) : DevAt n0 (w.setCell ⟨g, 2, none⟩ (.slice none 0 0)) g m (.slice none 0 0) kv { d with wait := [] } := by
  unfold DevAt at h
  obtain ⟨h1, h2, h3, h4, h5, h6, h7⟩ := h
  have hg := grown_setCell w g 2 (.slice none 0 0)
  have hmg : some m ≠ some g := by
    intro e
    injection e with e
    subst e
    obtain ⟨_, _, _, ho, _⟩ := h3
    obtain ⟨es, c, hb, _⟩ := ho
    unfold Blk at h2
    rw [h2] at hb
    cases hb
  unfold DevAt
  exact ⟨h1, by simpa using h2.set 2 (.slice none 0 0), h3.kept hg hmg, World.ownsRow_nil _ _ _ _, own_grown h5 h2 (by decide) hg, ⟨h6.1, (fun x hx => by cases hx), h6.2.2.1, ⟨h6.2.2.2.1.1, Nat.zero_le _⟩, h6.2.2.2.2⟩, by simpa [World.setCell] using h7⟩
end

end Go.Proofs.YtjlcbabnkhdgpaaGreatDoor
