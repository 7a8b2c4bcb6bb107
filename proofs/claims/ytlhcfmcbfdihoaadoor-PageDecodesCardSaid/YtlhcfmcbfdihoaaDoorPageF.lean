/-
  Walks: the page of bytes: Decode.
-/
import Derived.Test.YtlhcfmcbfdihoaaDoorPageE
import Derived.Laws.ResultCell
namespace Go.Proofs.YtlhcfmcbfdihoaaDoor
open Go.RowKit

/-- What Decode answers where there is a page. -/
def DecOk (p : Pg) (n : Int) (w : World) (e : Ending) (w' : World) : Prop :=
  ∃ A c, e = .returned (.tuple #[.agg (pgCells p A c), .int .i64 n]) ∧ ReadsE w' w'.heap.size A p.ents ∧ p.ents.length ≤ c ∧ Below w.heap.size w w'

theorem DecOk.zero (n : Int) (w w' : World) (h : Below w.heap.size w w') : DecOk pg0 n w (.returned (.tuple #[.agg #[.int .i64 0, .int .i64 0, .int .i64 0, .int .i64 0, .string ⟨#[]⟩, .slice none 0 0], .int .i64 n])) w' :=
  ⟨none, 0, rfl, Reads.none_, Nat.le_refl _, h⟩

/-- The block is a struct of page.Page, nothing of it frozen. -/
def HBox (w : World) (g : Nat) (cs : Array Value) : Prop := w.heap[g]? = some (.cells cs 29 (0, 0))
theorem HBox.made (w : World) (cs : Array Value) : HBox (w.alloc (.cells cs 29)) w.heap.size cs := by
  show (w.heap.push _)[w.heap.size]? = _
  simp
theorem HBox.below {w w' : World} {g B : Nat} {cs : Array Value} (h : HBox w g cs) (hb : Below B w w') (hg : g < B) : HBox w' g cs := (hb.block g hg).trans h
theorem HBox.up {w w' : World} {g : Nat} {cs : Array Value} (h : HBox w g cs) (hb : Below w.heap.size w w') : HBox w' g cs := h.below hb (heap_lt h)
theorem HBox.grown {w w' : World} {g : Nat} {r : Option Nat} {cs : Array Value} (h : HBox w g cs) (hb : w.grownBy w' r) (hg : some g ≠ r) : HBox w' g cs := (hb.block g (heap_lt h) hg).trans h
theorem HBox.cells {w : World} {g : Nat} {v0 v1 v2 v3 v4 v5 : Value} (h : HBox w g #[v0, v1, v2, v3, v4, v5]) :
    (w.cell? ⟨g, 0, none⟩ = some v0 ∧ w.cell? ⟨g, 1, none⟩ = some v1 ∧ w.cell? ⟨g, 2, none⟩ = some v2 ∧ w.cell? ⟨g, 3, none⟩ = some v3 ∧ w.cell? ⟨g, 4, none⟩ = some v4 ∧ w.cell? ⟨g, 5, none⟩ = some v5) ∧
    (w.frozen? ⟨g, 0, none⟩ = false ∧ w.frozen? ⟨g, 1, none⟩ = false ∧ w.frozen? ⟨g, 2, none⟩ = false ∧ w.frozen? ⟨g, 3, none⟩ = false ∧ w.frozen? ⟨g, 4, none⟩ = false ∧ w.frozen? ⟨g, 5, none⟩ = false) := by
  unfold HBox at h
  simp [World.cell?, World.frozen?, h]
theorem HBox.set {w : World} {g : Nat} {cs : Array Value} (h : HBox w g cs) (j : Nat) (v : Value) : HBox (w.setCell ⟨g, j, none⟩ v) g (cs.setIfInBounds j v) := by
  unfold HBox at *
  simp [World.setCell, Array.getElem?_modify, h]
theorem decode_results (tmps : Array Value) (rb : Nat) (x : Value) (W : World) {v0 v1 v2 v3 v4 v5 : Value} (h2 : tmps.getD 2 undef = .pointer (some ⟨rb, 0, none⟩)) (h3 : tmps.getD 3 undef = x) (h : HBox W rb #[v0, v1, v2, v3, v4, v5]) :
    (results Tryd.f14 tmps).run Tryd.prog W = .ok (.tuple #[.agg #[v0, v1, v2, v3, v4, v5], x]) W := by
  obtain ⟨⟨c0, c1, c2, c3, c4, c5⟩, _⟩ := h.cells
  have h2' : tmps[2]?.getD undef = .pointer (some ⟨rb, 0, none⟩) := by simpa using h2
  have h3' : tmps[3]?.getD undef = x := by simpa using h3
  simp [results, Tryd.results14, go_sem, c0, c1, c2, c3, c4, c5, h2', h3']
abbrev zCells : Array Value := #[.int .i64 0, .int .i64 0, .int .i64 0, .int .i64 0, .string ⟨#[]⟩, .slice none 0 0]
/-- Six stores of a struct into its block. -/
def six (W : World) (g : Nat) (v0 v1 v2 v3 v4 v5 : Value) : World := (((((W.setCell ⟨g, 0, none⟩ v0).setCell ⟨g, 1, none⟩ v1).setCell ⟨g, 2, none⟩ v2).setCell ⟨g, 3, none⟩ v3).setCell ⟨g, 4, none⟩ v4).setCell ⟨g, 5, none⟩ v5
theorem HBox.six {W : World} {g : Nat} {u0 u1 u2 u3 u4 u5 : Value} (h : HBox W g #[u0, u1, u2, u3, u4, u5]) (v0 v1 v2 v3 v4 v5 : Value) : HBox (six W g v0 v1 v2 v3 v4 v5) g #[v0, v1, v2, v3, v4, v5] := by
  have := (((((h.set 0 v0).set 1 v1).set 2 v2).set 3 v3).set 4 v4).set 5 v5
  unfold Go.Proofs.YtlhcfmcbfdihoaaDoor.six
  simpa using this
theorem below_six {B : Nat} {w W : World} {g : Nat} (h : Below B w W) (hg : B ≤ g) (v0 v1 v2 v3 v4 v5 : Value) : Below B w (six W g v0 v1 v2 v3 v4 v5) :=
  (((((h.setCell (p := ⟨g, 0, none⟩) hg v0).setCell (p := ⟨g, 1, none⟩) hg v1).setCell (p := ⟨g, 2, none⟩) hg v2).setCell (p := ⟨g, 3, none⟩) hg v3).setCell (p := ⟨g, 4, none⟩) hg v4).setCell (p := ⟨g, 5, none⟩) hg v5
theorem DecOk.six {n : Int} {w W : World} (h : Below w.heap.size w W) (g : Nat) (hg : w.heap.size ≤ g) : DecOk pg0 n w (.returned (.tuple #[.agg #[.int .i64 0, .int .i64 0, .int .i64 0, .int .i64 0, .string ⟨#[]⟩, .slice none 0 0], .int .i64 n])) (Go.Proofs.YtlhcfmcbfdihoaaDoor.six W g (.int .i64 0) (.int .i64 0) (.int .i64 0) (.int .i64 0) (.string ⟨#[]⟩) (.slice none 0 0)) :=
  DecOk.zero n w _ (below_six h hg _ _ _ _ _ _)

set_option maxHeartbeats 400000 in
set_option maxRecDepth 100000 in
theorem decode_short (l : List UInt8) (hl : l.length < 512) (w : World) :
    Calls Tryd.prog 14 #[.string (bs l)] w (DecOk pg0 3 w) := by
  go_enter Tryd.func14, Tryd.ntmps14
  go_wp2
  have hf := HBox.made w zCells
  refine bodyPost_ret (v := .tuple #[.agg #[.int .i64 0, .int .i64 0, .int .i64 0, .int .i64 0, .string ⟨#[]⟩, .slice none 0 0], .int .i64 3]) (decode_results _ _ _ _ rfl rfl hf) rfl (DecOk.zero _ _ _ ?_)
  exact (Below.refl _ _).alloc (Nat.le_refl _) _

set_option maxHeartbeats 400000 in
set_option maxRecDepth 100000 in
theorem decode_long (l : List UInt8) (hl : 512 < l.length) (hm : l.length ≤ 140737488355328) (w : World) :
    Calls Tryd.prog 14 #[.string (bs l)] w (DecOk pg0 6 w) := by
  have hx : (512 : Int) < (l.length : Int) := by omega
  go_enter Tryd.func14, Tryd.ntmps14
  go_wp2
  have hf := HBox.made w zCells
  refine bodyPost_ret (v := .tuple #[.agg #[.int .i64 0, .int .i64 0, .int .i64 0, .int .i64 0, .string ⟨#[]⟩, .slice none 0 0], .int .i64 6]) (decode_results _ _ _ _ rfl rfl hf) rfl (DecOk.zero _ _ _ ?_)
  exact (Below.refl _ _).alloc (Nat.le_refl _) _

set_option maxHeartbeats 400000 in
set_option maxRecDepth 100000 in
theorem decode_noughts (l : List UInt8) (hl : l.length = 512) (hz : noughtsB l = true) (w : World) :
    Calls Tryd.prog 14 #[.string (bs l)] w (DecOk pg0 0 w) := by
  have hn := noughts_any l (by omega)
  rw [hz] at hn
  have HN := Lib.hid hn
  have HB : Below w.heap.size w (w.alloc (.cells #[.int .i64 0, .int .i64 0, .int .i64 0, .int .i64 0, .string ⟨#[]⟩, .slice none 0 0] 29)) := (Below.refl _ _).alloc (Nat.le_refl _) _
  clear hn hz
  go_enter Tryd.func14, Tryd.ntmps14
  go_wp2_with fail
  refine (HN.out _).mono ?_
  rintro e w1 ⟨rfl, n, rfl⟩
  go_wp2
  have hf := (((HBox.made w zCells).up (below_drewN (Below.refl _ _) n)).six (.int .i64 0) (.int .i64 0) (.int .i64 0) (.int .i64 0) (.string ⟨#[]⟩) (.slice none 0 0))
  exact bodyPost_ret (v := .tuple #[.agg #[.int .i64 0, .int .i64 0, .int .i64 0, .int .i64 0, .string ⟨#[]⟩, .slice none 0 0], .int .i64 0]) (decode_results _ _ _ _ rfl rfl hf) rfl (DecOk.six (below_drewN HB n) _ (Nat.le_refl _))

set_option maxHeartbeats 400000 in
set_option maxRecDepth 100000 in
theorem decode_torn (l : List UInt8) (hl : l.length = 512) (hz : noughtsB l = false) (hw : wholeB l = false) (w : World) (ht : Turns w) :
    Calls Tryd.prog 14 #[.string (bs l)] w (DecOk pg0 5 w) := by
  have hn := noughts_any l (by omega)
  rw [hz] at hn
  have HN := Lib.hid hn
  have hwh := whole_ok l hl
  rw [hw] at hwh
  have HW := Lib.hid hwh
  have HT := Lib.hid ht
  have HB : Below w.heap.size w (w.alloc (.cells #[.int .i64 0, .int .i64 0, .int .i64 0, .int .i64 0, .string ⟨#[]⟩, .slice none 0 0] 29)) := (Below.refl _ _).alloc (Nat.le_refl _) _
  clear hn hz hwh hw ht
  go_enter Tryd.func14, Tryd.ntmps14
  go_wp2_with fail
  refine (HN.out _).mono ?_
  rintro e w1 ⟨rfl, n, rfl⟩
  go_wp2_with fail
  refine (HW.out _ (HT.out.below (below_drewN HB n))).mono ?_
  rintro e w2 ⟨rfl, hb2⟩
  have hx := ((HBox.made w zCells).up (below_drewN (Below.refl _ _) n)).up hb2
  obtain ⟨⟨c0, c1, c2, c3, c4, c5⟩, f0, f1, f2, f3, f4, f5⟩ := hx.cells
  have HX := Lib.hid hx
  clear hx
  go_wp2
  have hf := (HX.out.six (.int .i64 0) (.int .i64 0) (.int .i64 0) (.int .i64 0) (.string ⟨#[]⟩) (.slice none 0 0))
  exact bodyPost_ret (v := .tuple #[.agg #[.int .i64 0, .int .i64 0, .int .i64 0, .int .i64 0, .string ⟨#[]⟩, .slice none 0 0], .int .i64 5]) (decode_results _ _ _ _ rfl rfl hf) rfl (DecOk.six ((below_drewN HB n).trans (hb2.mono (by simp))) _ (Nat.le_refl _))

end Go.Proofs.YtlhcfmcbfdihoaaDoor
