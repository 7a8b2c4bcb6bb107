/-
  Walks: the document's answer for layer 5: what Decode keeps; its short answers.
-/
import Derived.Test.YtlhcfmcbfdihoaaDoorRefG
import Derived.Test.YtlhcfmcbfdihoaaDoorPageG
import Derived.Test.YtlhcfmcbfdihoaaDoorMadeA
namespace Go.Proofs.YtlhcfmcbfdihoaaDoor
set_option linter.unusedSimpArgs false
set_option linter.unusedVariables false
open Go.RowKit

abbrev RT : TypeId := 32
theorem Blk.six_cells {w : World} {g : Nat} {T : TypeId} {v0 v1 v2 v3 v4 v5 : Value} (h : Blk w g T #[v0, v1, v2, v3, v4, v5]) :
    (w.cell? ⟨g, 0, none⟩ = some v0 ∧ w.cell? ⟨g, 1, none⟩ = some v1 ∧ w.cell? ⟨g, 2, none⟩ = some v2 ∧ w.cell? ⟨g, 3, none⟩ = some v3 ∧ w.cell? ⟨g, 4, none⟩ = some v4 ∧ w.cell? ⟨g, 5, none⟩ = some v5) ∧
    (w.frozen? ⟨g, 0, none⟩ = false ∧ w.frozen? ⟨g, 1, none⟩ = false ∧ w.frozen? ⟨g, 2, none⟩ = false ∧ w.frozen? ⟨g, 3, none⟩ = false ∧ w.frozen? ⟨g, 4, none⟩ = false ∧ w.frozen? ⟨g, 5, none⟩ = false) :=
  ⟨⟨h.cell 0, h.cell 1, h.cell 2, h.cell 3, h.cell 4, h.cell 5⟩, h.frozen 0, h.frozen 1, h.frozen 2, h.frozen 3, h.frozen 4, h.frozen 5⟩
theorem refdecode_results (tmps : Array Value) (rb : Nat) (x : Value) (W : World) {v0 v1 v2 v3 v4 v5 : Value} (h2 : tmps.getD 2 undef = .pointer (some ⟨rb, 0, none⟩)) (h3 : tmps.getD 3 undef = x) (h : Blk W rb 32 #[v0, v1, v2, v3, v4, v5]) :
    (results Tryd.f20 tmps).run Tryd.prog W = .ok (.tuple #[.agg #[v0, v1, v2, v3, v4, v5], x]) W := by
  obtain ⟨⟨c0, c1, c2, c3, c4, c5⟩, _⟩ := h.six_cells
  have h2' : tmps[2]?.getD undef = .pointer (some ⟨rb, 0, none⟩) := by simpa using h2
  have h3' : tmps[3]?.getD undef = x := by simpa using h3
  simp [results, Tryd.results20, go_sem, c0, c1, c2, c3, c4, c5, h2', h3']

set_option maxHeartbeats 800000 in
set_option maxRecDepth 100000 in
theorem refdecode_short (l : List UInt8) (hl : l.length < 512) (w : World) :
    Calls Tryd.prog 20 #[.string (bs l)] w (DecOk pg0 3 w) := by
  go_enter Tryd.func20, Tryd.ntmps20
  go_wp2
  have hf := Blk.made w zCells 32
  refine bodyPost_ret (v := .tuple #[.agg #[.int .i64 0, .int .i64 0, .int .i64 0, .int .i64 0, .string ⟨#[]⟩, .slice none 0 0], .int .i64 3]) (refdecode_results _ _ _ _ rfl rfl hf) rfl (DecOk.zero _ _ _ ?_)
  exact (Below.refl _ _).alloc (Nat.le_refl _) _

set_option maxHeartbeats 800000 in
set_option maxRecDepth 100000 in
theorem refdecode_long (l : List UInt8) (hl : 512 < l.length) (hm : l.length ≤ 140737488355328) (w : World) :
    Calls Tryd.prog 20 #[.string (bs l)] w (DecOk pg0 6 w) := by
  have hx : (512 : Int) < (l.length : Int) := by omega
  go_enter Tryd.func20, Tryd.ntmps20
  go_wp2
  have hf := Blk.made w zCells 32
  refine bodyPost_ret (v := .tuple #[.agg #[.int .i64 0, .int .i64 0, .int .i64 0, .int .i64 0, .string ⟨#[]⟩, .slice none 0 0], .int .i64 6]) (refdecode_results _ _ _ _ rfl rfl hf) rfl (DecOk.zero _ _ _ ?_)
  exact (Below.refl _ _).alloc (Nat.le_refl _) _

set_option maxHeartbeats 800000 in
set_option maxRecDepth 100000 in
theorem refdecode_noughts (l : List UInt8) (hl : l.length = 512) (hz : noughtsB l = true) (w : World) :
    Calls Tryd.prog 20 #[.string (bs l)] w (DecOk pg0 0 w) := by
  have hn := refnothing_any l (by omega)
  rw [hz] at hn
  have HN := Lib.hid hn
  clear hn hz
  go_enter Tryd.func20, Tryd.ntmps20
  go_wp2_with fail
  refine (HN.out _).mono ?_
  rintro e w1 ⟨rfl, rfl⟩
  go_wp2
  have hf := Blk.made w zCells 32
  refine bodyPost_ret (v := .tuple #[.agg #[.int .i64 0, .int .i64 0, .int .i64 0, .int .i64 0, .string ⟨#[]⟩, .slice none 0 0], .int .i64 0]) (refdecode_results _ _ _ _ rfl rfl hf) rfl (DecOk.zero _ _ _ ?_)
  exact (Below.refl _ _).alloc (Nat.le_refl _) _

set_option maxHeartbeats 800000 in
set_option maxRecDepth 100000 in
theorem refdecode_torn (l : List UInt8) (hl : l.length = 512) (hz : noughtsB l = false) (hw : (sealedB l && twiceB l) = false) (w : World) :
    Calls Tryd.prog 20 #[.string (bs l)] w (DecOk pg0 5 w) := by
  have hn := refnothing_any l (by omega)
  rw [hz] at hn
  have HN := Lib.hid hn
  have hwh := refwhole_any l hl
  rw [hw] at hwh
  have HW := Lib.hid hwh
  have HB : Below w.heap.size w (w.alloc (.cells zCells 32)) := (Below.refl _ _).alloc (Nat.le_refl _) _
  clear hn hz hwh hw
  go_enter Tryd.func20, Tryd.ntmps20
  go_wp2_with fail
  refine (HN.out _).mono ?_
  rintro e w1 ⟨rfl, rfl⟩
  go_wp2_with fail
  refine (HW.out _).mono ?_
  rintro e w2 ⟨rfl, hb2⟩
  have hx := (Blk.made w zCells 32).up hb2
  have hB2 : Below w.heap.size w w2 := HB.trans (hb2.mono (by simp))
  obtain ⟨⟨c0, c1, c2, c3, c4, c5⟩, f0, f1, f2, f3, f4, f5⟩ := hx.six_cells
  have HX := Lib.hid hx
  clear hx hb2 HB
  go_wp2
  have hf := (HX.out.six (.int .i64 0) (.int .i64 0) (.int .i64 0) (.int .i64 0) (.string ⟨#[]⟩) (.slice none 0 0))
  exact bodyPost_ret (v := .tuple #[.agg #[.int .i64 0, .int .i64 0, .int .i64 0, .int .i64 0, .string ⟨#[]⟩, .slice none 0 0], .int .i64 5]) (refdecode_results _ _ _ _ rfl rfl hf) rfl (DecOk.six hB2 _ (Nat.le_refl _))

/-- What the document's Decode keeps: its result's block, its page with the entries that it has. -/
def RInv (w0 : World) (rb pb : Nat) (p : Pg) (w : World) : Prop :=
  Below w0.heap.size w0 w ∧ (w0.heap.size ≤ rb ∧ w0.heap.size ≤ pb ∧ rb ≠ pb) ∧ Blk w rb 32 zCells ∧
  ∃ v, Blk w pb 32 #[.int .i64 p.lsn, .int .i64 p.kind, .int .i64 p.level, .int .i64 p.right, .string (bs p.high), v] ∧ w.ownsRow w0.heap.size 57 3 v p.ents.length (entsCells p.ents)
section
variable {w0 w w' : World} {rb pb : Nat} {p : Pg}
theorem RInv.below (h : RInv w0 rb pb p w) (hb : Below w.heap.size w w') : RInv w0 rb pb p w' := by
  obtain ⟨h1, h2, h3, v, h5, h6⟩ := h
  exact ⟨h1.trans (hb.mono h1.size), h2, h3.up hb, v, h5.up hb, ownsRow_grown h6 (grown_of_below hb none) (by simp)⟩
theorem RInv.drew (h : RInv w0 rb pb p w) : RInv w0 rb pb p w.drew := by
  obtain ⟨h1, h2⟩ := h
  exact ⟨h1.drew, h2⟩
theorem RInv.alloc (h : RInv w0 rb pb p w) (o : Obj) : RInv w0 rb pb p (w.alloc o) := h.below ((Below.refl _ _).alloc (Nat.le_refl _) _)
theorem RInv.set4 (h : RInv w0 rb pb p w) (s : List UInt8) : RInv w0 rb pb { p with high := s } (w.setCell ⟨pb, 4, none⟩ (.string (bs s))) := by
  obtain ⟨h1, h2, h3, v, h5, h6⟩ := h
  have hg := grown_setCell w pb 4 (.string (bs s))
  refine ⟨below_of_grown h1 hg h1.size (fun g e => by simp at e; omega), h2, h3.grown hg (by simpa using h2.2.2), v, ?_, ownsRow_grown h6 hg ?_⟩
  · simpa using h5.set 4 (.string (bs s))
  · intro g e cs fz hh
    simp at e
    subst e
    unfold Blk at h5
    rw [h5] at hh
    simp at hh
/-- The entries' slice is stored anew. -/
theorem RInv.set5 (h : RInv w0 rb pb p w) {w1 : World} {v v' : Value} {n : Nat} {xs : List Value} (hb0 : Blk w pb 32 #[.int .i64 p.lsn, .int .i64 p.kind, .int .i64 p.level, .int .i64 p.right, .string (bs p.high), v])
    (ho : w.ownsRow w0.heap.size 57 3 v n xs) (hg : w.grownBy w1 v.ownBlock) (l : List Ent) (hn : w1.ownsRow w0.heap.size 57 3 v' l.length (entsCells l)) :
    Blk w1 pb 32 #[.int .i64 p.lsn, .int .i64 p.kind, .int .i64 p.level, .int .i64 p.right, .string (bs p.high), v] ∧ RInv w0 rb pb { p with ents := l } (w1.setCell ⟨pb, 5, none⟩ v') := by
  obtain ⟨h1, h2, h3, _, _, _⟩ := h
  have q1 : some rb ≠ v.ownBlock := h3.notOwn ho (by decide)
  have q3 : some pb ≠ v.ownBlock := hb0.notOwn ho (by decide)
  have b1 : Below w0.heap.size w0 w1 := below_of_grown h1 hg h1.size (fun g e => (ho.lt g e).1)
  have h3' := h3.grown hg q1
  have h5' := hb0.grown hg q3
  have hs := grown_setCell w1 pb 5 v'
  refine ⟨h5', b1.setCell h2.2.1 _, h2, h3'.grown hs (by simpa using h2.2.2), v', ?_, ownsRow_grown hn hs ?_⟩
  · simpa using h5'.set 5 v'
  · intro g e cs fz hh
    simp at e
    subst e
    unfold Blk at h5'
    rw [h5'] at hh
    simp at hh
theorem RInv.page (h : RInv w0 rb pb p w) : ∃ v, Blk w pb 32 #[.int .i64 p.lsn, .int .i64 p.kind, .int .i64 p.level, .int .i64 p.right, .string (bs p.high), v] ∧ w.ownsRow w0.heap.size 57 3 v p.ents.length (entsCells p.ents) := h.2.2.2
theorem RInv.old (h : RInv w0 rb pb p w) : Below w0.heap.size w0 w := h.1
theorem RInv.res (h : RInv w0 rb pb p w) : Blk w rb 32 zCells := h.2.2.1
theorem RInv.ge (h : RInv w0 rb pb p w) : w0.heap.size ≤ rb ∧ w0.heap.size ≤ pb ∧ rb ≠ pb := h.2.1
theorem RInv.start (h1 : Below w0.heap.size w0 w) (hr : w0.heap.size ≤ rb) (h3 : Blk w rb 32 zCells) (lsn kind level right : Int) :
    RInv w0 rb w.heap.size ⟨lsn, kind, level, right, [], []⟩ (w.alloc (.cells #[.int .i64 lsn, .int .i64 kind, .int .i64 level, .int .i64 right, .string (bs []), .slice none 0 0] 32)) := by
  have hb : Below w.heap.size w (w.alloc (.cells #[.int .i64 lsn, .int .i64 kind, .int .i64 level, .int .i64 right, .string (bs []), .slice none 0 0] 32)) := (Below.refl _ _).alloc (Nat.le_refl _) _
  exact ⟨h1.trans (hb.mono h1.size), ⟨hr, h1.size, Nat.ne_of_lt h3.lt⟩, h3.up hb, .slice none 0 0, Blk.made _ _ _, World.ownsRow_nil _ _ _ _⟩
end
attribute [irreducible] RInv
end Go.Proofs.YtlhcfmcbfdihoaaDoor
