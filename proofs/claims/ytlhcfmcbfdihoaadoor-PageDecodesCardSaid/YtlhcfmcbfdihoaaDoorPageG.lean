/-
  Walks: the page of bytes: what Decode keeps; one round.
-/
import Derived.Test.YtlhcfmcbfdihoaaDoorPageF
namespace Go.Proofs.YtlhcfmcbfdihoaaDoor
open Go.RowKit

/-- What Decode keeps: its result's block, its cutter, its page with the entries that it has. -/
def DInv (w0 : World) (rb cb pb : Nat) (p : Pg) (c : Cu) (w : World) : Prop :=
  Below w0.heap.size w0 w ∧ (w0.heap.size ≤ rb ∧ w0.heap.size ≤ cb ∧ w0.heap.size ≤ pb ∧ rb ≠ pb) ∧ HBox w rb zCells ∧ Cut w cb c ∧
  ∃ v, HBox w pb #[.int .i64 p.lsn, .int .i64 p.kind, .int .i64 p.level, .int .i64 p.right, .string (bs p.high), v] ∧ w.ownsRow w0.heap.size 56 3 v p.ents.length (entsCells p.ents)

section
variable {w0 w w' : World} {rb cb pb : Nat} {p : Pg} {c c' : Cu}
theorem ownsRow_grown {base : Nat} {e : TypeId} {size : Nat} {v : Value} {n : Nat} {xs : List Value} {r : Option Nat} (h : w.ownsRow base e size v n xs) (hb : w.grownBy w' r)
    (hr : ∀ g, r = some g → ∀ cs fz, w.heap[g]? ≠ some (.cells cs e fz)) : w'.ownsRow base e size v n xs := by
  obtain ⟨h1, h2⟩ := h
  refine ⟨h1, ?_⟩
  rcases h2 with h2 | ⟨g, cap, cur, hv, hg, hh, q⟩
  · exact Or.inl h2
  · exact Or.inr ⟨g, cap, cur, hv, hg, (hb.block g (heap_lt hh) (fun e => hr g e.symm _ _ hh)).trans hh, q⟩
theorem below_of_grown {B : Nat} {r : Option Nat} (h : Below B w0 w) (hb : w.grownBy w' r) (hB : B ≤ w.heap.size) (hr : ∀ g, r = some g → B ≤ g) : Below B w0 w' := h.grown hb hB hr
theorem grown_of_below (h : Below w.heap.size w w') (r : Option Nat) : w.grownBy w' r := ⟨h.os, h.tape, h.output, h.size, fun k hk _ => h.block k hk⟩

theorem DInv.below (h : DInv w0 rb cb pb p c w) (hb : Below w.heap.size w w') : DInv w0 rb cb pb p c w' := by
  obtain ⟨h1, h2, h3, h4, v, h5, h6⟩ := h
  exact ⟨h1.trans (hb.mono h1.size), h2, h3.up hb, (hb.block cb h4.lt).trans h4, v, h5.up hb, ownsRow_grown h6 (grown_of_below hb none) (by simp)⟩
theorem DInv.drew (h : DInv w0 rb cb pb p c w) : DInv w0 rb cb pb p c w.drew := by
  obtain ⟨h1, h2⟩ := h
  exact ⟨h1.drew, h2⟩
theorem DInv.alloc (h : DInv w0 rb cb pb p c w) (o : Obj) : DInv w0 rb cb pb p c (w.alloc o) := h.below ((Below.refl _ _).alloc (Nat.le_refl _) _)
theorem DInv.cut (h : DInv w0 rb cb pb p c w) (hc : Cut w' cb c') (hg : w.grownBy w' (some cb)) : DInv w0 rb cb pb p c' w' := by
  obtain ⟨h1, h2, h3, h4, v, h5, h6⟩ := h
  have n1 : rb ≠ cb := by intro e; subst e; unfold HBox Cut at *; rw [h3] at h4; simp at h4
  have n2 : pb ≠ cb := by intro e; subst e; unfold HBox Cut at *; rw [h5] at h4; simp at h4
  refine ⟨below_of_grown h1 hg h1.size (fun g e => by simp at e; omega), h2, h3.grown hg (by simpa using n1), hc, v, h5.grown hg (by simpa using n2), ownsRow_grown h6 hg ?_⟩
  intro g e cs fz hh
  simp at e
  subst e
  unfold Cut at h4
  rw [h4] at hh
  simp at hh
theorem DInv.isCut (h : DInv w0 rb cb pb p c w) : Cut w cb c := h.2.2.2.1
theorem DInv.set4 (h : DInv w0 rb cb pb p c w) (s : List UInt8) : DInv w0 rb cb pb { p with high := s } c (w.setCell ⟨pb, 4, none⟩ (.string (bs s))) := by
  obtain ⟨h1, h2, h3, h4, v, h5, h6⟩ := h
  have n2 : pb ≠ cb := by intro e; subst e; unfold HBox Cut at *; rw [h5] at h4; simp at h4
  have hg := grown_setCell w pb 4 (.string (bs s))
  refine ⟨below_of_grown h1 hg h1.size (fun g e => by simp at e; omega), h2, h3.grown hg (by simpa using h2.2.2.2), (hg.block cb h4.lt (by simpa using n2.symm)).trans h4, v, ?_, ownsRow_grown h6 hg ?_⟩
  · simpa using h5.set 4 (.string (bs s))
  · intro g e cs fz hh
    simp at e
    subst e
    unfold HBox at h5
    rw [h5] at hh
    simp at hh
/-- The entries' slice is stored anew. -/
theorem DInv.set5 (h : DInv w0 rb cb pb p c w) {w1 : World} {v v' : Value} {n : Nat} {xs : List Value} (hb0 : HBox w pb #[.int .i64 p.lsn, .int .i64 p.kind, .int .i64 p.level, .int .i64 p.right, .string (bs p.high), v])
    (ho : w.ownsRow w0.heap.size 56 3 v n xs) (hg : w.grownBy w1 v.ownBlock) (l : List Ent) (hn : w1.ownsRow w0.heap.size 56 3 v' l.length (entsCells l)) :
    HBox w1 pb #[.int .i64 p.lsn, .int .i64 p.kind, .int .i64 p.level, .int .i64 p.right, .string (bs p.high), v] ∧ DInv w0 rb cb pb { p with ents := l } c (w1.setCell ⟨pb, 5, none⟩ v') := by
  obtain ⟨h1, h2, h3, h4, _, _, _⟩ := h
  have own : ∀ g, v.ownBlock = some g → ∃ cs, w.heap[g]? = some (.cells cs 56 (0, 0)) := by
    intro g e
    obtain ⟨_, hh⟩ := ho
    rcases hh with ⟨hv, _⟩ | ⟨g', cap, cur, hv, hg', hh, _⟩
    · subst hv; simp [Value.ownBlock] at e
    · subst hv; simp [Value.ownBlock] at e; subst e; exact ⟨cur, hh⟩
  have q1 : some rb ≠ v.ownBlock := by
    intro e; obtain ⟨cs, hh⟩ := own rb e.symm; unfold HBox at h3; rw [h3] at hh; simp at hh
  have q2 : some cb ≠ v.ownBlock := by
    intro e; obtain ⟨cs, hh⟩ := own cb e.symm; unfold Cut at h4; rw [h4] at hh; simp at hh
  have q3 : some pb ≠ v.ownBlock := by
    intro e; obtain ⟨cs, hh⟩ := own pb e.symm; unfold HBox at hb0; rw [hb0] at hh; simp at hh
  have b1 : Below w0.heap.size w0 w1 := below_of_grown h1 hg h1.size (fun g e => (ho.lt g e).1)
  have h3' := h3.grown hg q1
  have h4' : Cut w1 cb c := (hg.block cb h4.lt q2).trans h4
  have h5' := hb0.grown hg q3
  have n2 : pb ≠ cb := by intro e; subst e; unfold HBox Cut at *; rw [h5'] at h4'; simp at h4'
  have hs := grown_setCell w1 pb 5 v'
  refine ⟨h5', b1.setCell h2.2.2.1 _, h2, h3'.grown hs (by simpa using h2.2.2.2), (hs.block cb h4'.lt (by simpa using n2.symm)).trans h4', v', ?_, ownsRow_grown hn hs ?_⟩
  · simpa using h5'.set 5 v'
  · intro g e cs fz hh
    simp at e
    subst e
    unfold HBox at h5'
    rw [h5'] at hh
    simp at hh
theorem DInv.setok (h : DInv w0 rb cb pb p c w) (b : Bool) : DInv w0 rb cb pb p ⟨c.rest, b⟩ (w.setCell ⟨cb, 1, none⟩ (.bool b)) := h.cut (h.2.2.2.1.set1 b) (grown_setCell _ _ _ _)
theorem DInv.page (h : DInv w0 rb cb pb p c w) : ∃ v, HBox w pb #[.int .i64 p.lsn, .int .i64 p.kind, .int .i64 p.level, .int .i64 p.right, .string (bs p.high), v] ∧ w.ownsRow w0.heap.size 56 3 v p.ents.length (entsCells p.ents) := h.2.2.2.2
theorem DInv.old (h : DInv w0 rb cb pb p c w) : Below w0.heap.size w0 w := h.1
theorem DInv.res (h : DInv w0 rb cb pb p c w) : HBox w rb zCells := h.2.2.1
theorem DInv.ge (h : DInv w0 rb cb pb p c w) : w0.heap.size ≤ rb ∧ w0.heap.size ≤ cb ∧ w0.heap.size ≤ pb ∧ rb ≠ pb := h.2.1
theorem DInv.num (h : DInv w0 rb cb pb p c w) (n : Int) (h0 : 0 ≤ n) (h7 : n ≤ 7) (hl : c.rest.length ≤ 1000000) :
    Calls Tryd.prog 33 #[.pointer (some ⟨cb, 0, none⟩), .int .i64 n] w fun e w' => e = .returned (.int .i64 (getB (c.got n.toNat))) ∧ DInv w0 rb cb pb p (c.next n.toNat) w' := by
  refine (number_any c n cb h0 h7 hl w h.isCut).mono ?_
  rintro e w' ⟨rfl, h1, h2⟩
  exact ⟨rfl, h.cut h1 h2⟩
theorem DInv.take (h : DInv w0 rb cb pb p c w) (n : Int) (h0 : 0 ≤ n) (h7 : n ≤ 1000000) (hl : c.rest.length ≤ 1000000) :
    Calls Tryd.prog 34 #[.pointer (some ⟨cb, 0, none⟩), .int .i64 n] w fun e w' => e = .returned (.string (bs (c.got n.toNat))) ∧ DInv w0 rb cb pb p (c.next n.toNat) w' := by
  refine (take_any c n cb h0 h7 hl w h.isCut).mono ?_
  rintro e w' ⟨rfl, h1, h2⟩
  exact ⟨rfl, h.cut h1 h2⟩
theorem DInv.num1 (h : DInv w0 rb cb pb p c w) (hl : c.rest.length ≤ 1000000) :
    Calls Tryd.prog 33 #[.pointer (some ⟨cb, 0, none⟩), .int .i64 1] w fun e w' => e = .returned (.int .i64 (getB (c.got 1))) ∧ DInv w0 rb cb pb p (c.next 1) w' := h.num 1 (by decide) (by decide) hl
theorem DInv.num2 (h : DInv w0 rb cb pb p c w) (hl : c.rest.length ≤ 1000000) :
    Calls Tryd.prog 33 #[.pointer (some ⟨cb, 0, none⟩), .int .i64 2] w fun e w' => e = .returned (.int .i64 (getB (c.got 2))) ∧ DInv w0 rb cb pb p (c.next 2) w' := h.num 2 (by decide) (by decide) hl
theorem DInv.takeN (h : DInv w0 rb cb pb p c w) (m : Nat) (hm : m ≤ 1000000) (hl : c.rest.length ≤ 1000000) :
    Calls Tryd.prog 34 #[.pointer (some ⟨cb, 0, none⟩), .int .i64 (m : Int)] w fun e w' => e = .returned (.string (bs (c.got m))) ∧ DInv w0 rb cb pb p (c.next m) w' := by
  have := h.take m (by omega) (by omega) hl
  rwa [Int.toNat_natCast] at this

/-- .. ahead of the page. -/
def D0 (w0 : World) (rb cb : Nat) (c : Cu) (w : World) : Prop :=
  Below w0.heap.size w0 w ∧ (w0.heap.size ≤ rb ∧ w0.heap.size ≤ cb) ∧ HBox w rb zCells ∧ Cut w cb c
theorem D0.cut (h : D0 w0 rb cb c w) (hc : Cut w' cb c') (hg : w.grownBy w' (some cb)) : D0 w0 rb cb c' w' := by
  obtain ⟨h1, h2, h3, h4⟩ := h
  have n1 : rb ≠ cb := by intro e; subst e; unfold HBox Cut at *; rw [h3] at h4; simp at h4
  exact ⟨below_of_grown h1 hg h1.size (fun g e => by simp at e; omega), h2, h3.grown hg (by simpa using n1), hc⟩
theorem D0.num1 (h : D0 w0 rb cb c w) (hl : c.rest.length ≤ 1000000) :
    Calls Tryd.prog 33 #[.pointer (some ⟨cb, 0, none⟩), .int .i64 1] w fun e w' => e = .returned (.int .i64 (getB (c.got 1))) ∧ D0 w0 rb cb (c.next 1) w' := by
  refine (number_any c 1 cb (by decide) (by decide) hl w h.2.2.2).mono ?_
  rintro e w' ⟨rfl, h1, h2⟩
  exact ⟨rfl, h.cut h1 h2⟩
theorem D0.num2 (h : D0 w0 rb cb c w) (hl : c.rest.length ≤ 1000000) :
    Calls Tryd.prog 33 #[.pointer (some ⟨cb, 0, none⟩), .int .i64 2] w fun e w' => e = .returned (.int .i64 (getB (c.got 2))) ∧ D0 w0 rb cb (c.next 2) w' := by
  refine (number_any c 2 cb (by decide) (by decide) hl w h.2.2.2).mono ?_
  rintro e w' ⟨rfl, h1, h2⟩
  exact ⟨rfl, h.cut h1 h2⟩
theorem D0.page (h : D0 w0 rb cb c w) (lsn kind level right : Int) :
    DInv w0 rb cb w.heap.size ⟨lsn, kind, level, right, [], []⟩ c (w.alloc (.cells #[.int .i64 lsn, .int .i64 kind, .int .i64 level, .int .i64 right, .string (bs []), .slice none 0 0] 29)) := by
  obtain ⟨h1, h2, h3, h4⟩ := h
  have hb : Below w.heap.size w (w.alloc (.cells #[.int .i64 lsn, .int .i64 kind, .int .i64 level, .int .i64 right, .string (bs []), .slice none 0 0] 29)) := (Below.refl _ _).alloc (Nat.le_refl _) _
  exact ⟨h1.trans (hb.mono h1.size), ⟨h2.1, h2.2, h1.size, Nat.ne_of_lt (heap_lt h3)⟩, h3.up hb, (hb.block cb h4.lt).trans h4, .slice none 0 0, HBox.made _ _, World.ownsRow_nil _ _ _ _⟩
theorem D0.new {w0 w2 : World} {rb : Nat} (hb : Below w0.heap.size w0 w2) (hr : HBox w2 rb zCells) (hge : w0.heap.size ≤ rb) (l : List UInt8) :
    D0 w0 rb w2.heap.size ⟨l, true⟩ (w2.alloc (.cells #[.string (bs l), .bool true] 73)) := by
  refine ⟨hb.alloc hb.size _, ⟨hge, hb.size⟩, hr.up ((Below.refl _ _).alloc (Nat.le_refl _) _), ?_⟩
  show (w2.heap.push _)[w2.heap.size]? = _
  simp
theorem own_slice {base : Nat} {e : TypeId} {size : Nat} {v : Value} {n : Nat} {xs : List Value} (h : w.ownsRow base e size v n xs) : ∃ A cap, v = .slice A n cap ∧ Reads w w.heap.size size A n xs ∧ n ≤ cap := by
  rcases h.2 with ⟨hv, hn⟩ | ⟨g, cap, cur, hv, _, _, hle, _⟩
  · subst hn
    refine ⟨none, 0, hv, ?_, Nat.le_refl _⟩
    have := h.1
    simp at this
    subst this
    exact Reads.none_
  · refine ⟨some ⟨g, 0, none⟩, cap, hv, ?_, hle⟩
    subst hv
    exact Reads.of_own h
theorem info_entry : ∃ i z, Tryd.prog.info? 56 = some i ∧ i.zero = some z ∧ i.size = 3 ∧ i.bytes = 40 ∧ z.cells.size = 3 := by
  have h : (Tryd.prog.info? 56).bind (fun i => i.zero.map fun z => (i.size, i.bytes, z.cells.size)) = some (3, 40, 3) := by kernel_rfl
  cases hi : Tryd.prog.info? 56 with
  | none => rw [hi] at h; simp at h
  | some i =>
    rw [hi] at h
    cases hz : i.zero with
    | none => simp [hz] at h
    | some z =>
      simp [hz] at h
      exact ⟨i, z, rfl, hz, h.1, h.2.1, h.2.2⟩
end
attribute [irreducible] DInv D0
end Go.Proofs.YtlhcfmcbfdihoaaDoor
