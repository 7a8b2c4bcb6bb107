/-
  What a device holds, and what its functions leave as it was; New, Size, command.
-/
import Derived.Test.YtjlcbabnkhdgpaaGreatDoorDevA
namespace Go.Proofs.YtjlcbabnkhdgpaaGreatDoor
set_option linter.unusedSimpArgs false
set_option linter.unusedVariables false
open Go.RowKit Go.Maps

/-- A device: its sectors' count, what lasts, what waits, whether the power is off, the fuse with what is kept, how many commands were done (and, for the proof alone, how many stores its map has had). -/
structure DevM where
  size : Int
  last : Int → Option (List UInt8)
  wait : List (Int × List UInt8)
  off : Bool
  fuse : Int
  keep : List Int
  cmds : Nat
  puts : Nat
def waitCells (l : List (Int × List UInt8)) : List Value := l.flatMap fun x => [.int .i64 x.1, .string (bs x.2)]
theorem waitCells_snoc (l : List (Int × List UInt8)) (i : Int) (s : List UInt8) : waitCells (l ++ [(i, s)]) = waitCells l ++ [.int .i64 i, .string (bs s)] := by simp [waitCells]
def DevM.fits (d : DevM) : Prop := (1 ≤ d.size ∧ d.size ≤ 4096) ∧ (∀ x ∈ d.wait, (0 ≤ x.1 ∧ x.1 < d.size) ∧ x.2.length = 256) ∧ (∀ i s, d.last i = some s → s.length = 256) ∧ (d.puts ≤ d.cmds ∧ d.wait.length ≤ d.cmds) ∧ (0 ≤ d.fuse ∧ d.fuse ≤ 1000000000)

/-- The device's block g, its map's block m, its rows v, kv. -/
def DevAt (n0 : Nat) (w : World) (g m : Nat) (v kv : Value) (d : DevM) : Prop :=
  (n0 ≤ g ∧ n0 ≤ m) ∧ Blk w g 74 #[.int .i64 d.size, .map (some m), v, .bool d.off, .int .i64 d.fuse, kv, .int .i64 (d.cmds : Int)] ∧ MapIs w m d.last d.puts ∧
    w.ownsRow n0 100 2 v d.wait.length (waitCells d.wait) ∧ w.ownsRow n0 3 1 kv d.keep.length (d.keep.map (Value.int .i64)) ∧ d.fits ∧ n0 ≤ w.heap.size
def Dev (n0 : Nat) (w : World) (g : Nat) (d : DevM) : Prop := ∃ m v kv, DevAt n0 w g m v kv d

/-- The device's row to keep: as it was, or a new one. -/
def KeepC (g : Nat) (w w' : World) : Prop := g < w.heap.size → ∀ v, w'.cell? ⟨g, 5, none⟩ = some v → w.cell? ⟨g, 5, none⟩ = some v ∨ ∀ b, v.ownBlock = some b → w.heap.size ≤ b
theorem KeepC.of_cell {g : Nat} {w w' : World} (h : w'.cell? ⟨g, 5, none⟩ = w.cell? ⟨g, 5, none⟩) : KeepC g w w' := fun _ v hv => Or.inl (h ▸ hv)
theorem KeepC.trans {g : Nat} {w w' w'' : World} (h : KeepC g w w') (k : KeepC g w' w'') (hs : w.heap.size ≤ w'.heap.size) : KeepC g w w'' := fun hg v hv => by
  rcases k (Nat.lt_of_lt_of_le hg hs) v hv with h1 | h1
  · exact h hg v h1
  · exact Or.inr fun b e => Nat.le_trans hs (h1 b e)
/-- What a device's command leaves as it was: all but the device's block, its map's, and rows of writes. -/
def Kept (n0 g m : Nat) (w w' : World) : Prop :=
  Below n0 w w' ∧ (∀ (b : Nat) (o : Obj), w.heap[b]? = some o → b ≠ g → b ≠ m → (∀ cs fz, o ≠ .cells cs 100 fz) → w'.heap[b]? = some o) ∧ KeepC g w w'
section
variable {w w' w'' : World} {n0 g m : Nat} {v kv : Value} {d : DevM}
theorem Kept.refl (n0 g m : Nat) (w : World) : Kept n0 g m w w := ⟨Below.refl _ _, fun _ _ h _ _ _ => h, KeepC.of_cell rfl⟩
theorem Kept.trans (h : Kept n0 g m w w') (k : Kept n0 g m w' w'') : Kept n0 g m w w'' := ⟨h.1.trans k.1, fun b o ho h1 h2 h3 => k.2.1 b o (h.2.1 b o ho h1 h2 h3) h1 h2 h3, h.2.2.trans k.2.2 h.1.size⟩
theorem Kept.of_below (h : Below w.heap.size w w') (hn : n0 ≤ w.heap.size) : Kept n0 g m w w' := ⟨h.mono hn, fun b o ho _ _ _ => (h.block b (heap_lt ho)).trans ho, fun hg v hv => Or.inl ((h.cell (p := ⟨g, 5, none⟩) hg).symm.trans hv)⟩
theorem Kept.at_ (h : Kept n0 g m w w') {b : Nat} {o : Obj} (ho : w.heap[b]? = some o) (h1 : b ≠ g) (h2 : b ≠ m) (h3 : ∀ cs fz, o ≠ .cells cs 100 fz) : w'.heap[b]? = some o := h.2.1 b o ho h1 h2 h3
theorem Kept.below (h : Kept n0 g m w w') : Below n0 w w' := h.1
theorem Kept.blk {b : Nat} {T : TypeId} {cs : Array Value} (h : Kept n0 g m w w') (hb : Blk w b T cs) (h1 : b ≠ g) (h2 : b ≠ m) (h3 : T ≠ 100) : Blk w' b T cs :=
  h.2.1 b _ hb h1 h2 (by intro cs' fz e; injection e with _ e _; exact h3 e)
theorem DevAt.blk (h : DevAt n0 w g m v kv d) : Blk w g 74 #[.int .i64 d.size, .map (some m), v, .bool d.off, .int .i64 d.fuse, kv, .int .i64 (d.cmds : Int)] := h.2.1
theorem DevAt.fits (h : DevAt n0 w g m v kv d) : d.fits := h.2.2.2.2.2.1
theorem DevAt.cells (h : DevAt n0 w g m v kv d) : (w.cell? ⟨g, 0, none⟩ = some (.int .i64 d.size) ∧ w.cell? ⟨g, 1, none⟩ = some (.map (some m)) ∧ w.cell? ⟨g, 2, none⟩ = some v ∧ w.cell? ⟨g, 3, none⟩ = some (.bool d.off) ∧
    w.cell? ⟨g, 4, none⟩ = some (.int .i64 d.fuse) ∧ w.cell? ⟨g, 5, none⟩ = some kv ∧ w.cell? ⟨g, 6, none⟩ = some (.int .i64 (d.cmds : Int))) ∧ w.frozen? ⟨g, 2, none⟩ = false ∧ w.frozen? ⟨g, 6, none⟩ = false :=
  ⟨⟨h.blk.cell 0, h.blk.cell 1, h.blk.cell 2, h.blk.cell 3, h.blk.cell 4, h.blk.cell 5, h.blk.cell 6⟩, h.blk.frozen 2, h.blk.frozen 6⟩
theorem DevAt.up (h : DevAt n0 w g m v kv d) (hb : Below w.heap.size w w') : DevAt n0 w' g m v kv d := by
  obtain ⟨h1, h2, h3, h4, h5, h6, h7⟩ := h
  exact ⟨h1, h2.up hb, h3.up hb, ownsRow_grown h4 (grown_of_below hb none) (by simp), ownsRow_grown h5 (grown_of_below hb none) (by simp), h6, Nat.le_trans h7 hb.size⟩
theorem DevAt.lt (h : DevAt n0 w g m v kv d) : g < w.heap.size := h.2.1.lt
theorem Dev.up (h : Dev n0 w g d) (hb : Below w.heap.size w w') : Dev n0 w' g d := by
  obtain ⟨m, v, kv, h⟩ := h
  exact ⟨m, v, kv, h.up hb⟩
/-- A store into the device's own block. -/
theorem DevAt.set {j : Nat} {u : Value} {d' : DevM} (h : DevAt n0 w g m v kv d) (hl : d'.last = d.last) (hw : d'.wait = d.wait) (hk : d'.keep = d.keep) (hp : d'.puts = d.puts) (hf : d'.fits)
    (hc : (#[.int .i64 d.size, .map (some m), v, .bool d.off, .int .i64 d.fuse, kv, .int .i64 (d.cmds : Int)] : Array Value).setIfInBounds j u = #[.int .i64 d'.size, .map (some m), v, .bool d'.off, .int .i64 d'.fuse, kv, .int .i64 (d'.cmds : Int)]) :
    DevAt n0 (w.setCell ⟨g, j, none⟩ u) g m v kv d' := by
  obtain ⟨h1, h2, h3, h4, h5, h6, h7⟩ := h
  have hg := grown_setCell w g j u
  have hmg : some m ≠ some g := by
    intro e
    injection e with e
    subst e
    obtain ⟨_, _, _, ho, _⟩ := h3
    obtain ⟨es, c, hb, _⟩ := ho
    unfold Blk at h2
    rw [h2] at hb
    cases hb
  refine ⟨h1, ?_, ?_, ?_, ?_, hf, ?_⟩
  · have := h2.set j u
    rw [hc] at this
    exact this
  · rw [hl, hp]; exact h3.kept hg hmg
  · rw [hw]; exact own_grown h4 h2 (by decide) hg
  · rw [hk]; exact own_grown h5 h2 (by decide) hg
  · simpa [World.setCell] using h7
theorem Kept.below_size (h : Kept n0 g m w w') : w.heap.size ≤ w'.heap.size := h.1.size
theorem Kept.keepC (h : Kept n0 g m w w') : KeepC g w w' := h.2.2
theorem Kept.setKeep (h : DevAt n0 w' g m v kv d) (k : Kept n0 g m w w') (u : Value) (hu : ∀ b, u.ownBlock = some b → w.heap.size ≤ b) : Kept n0 g m w (w'.setCell ⟨g, 5, none⟩ u) := by
  have hg := grown_setCell w' g 5 u
  refine ⟨k.1.trans ((Below.refl n0 w').grown hg h.2.2.2.2.2.2 (fun k e => by simp at e; subst e; exact h.1.1)), fun b o ho hk h2 h3 => (hg.block b (heap_lt (k.2.1 b o ho hk h2 h3)) (fun e => hk (by simpa using e))).trans (k.2.1 b o ho hk h2 h3), fun _ x hx => Or.inr ?_⟩
  have hc := h.cells.1.2.2.2.2.2.1
  rw [World.cell?_setCell_same _ _ _ hc] at hx
  injection hx with hx
  subst hx
  exact hu
theorem Kept.setDev (h : DevAt n0 w g m v kv d) (j : Nat) (u : Value) (hj : j = 5 → ∀ b, u.ownBlock = some b → w.heap.size ≤ b := by intro h; first | exact absurd h (by decide) | (intro b e; cases e)) : Kept n0 g m w (w.setCell ⟨g, j, none⟩ u) := by
  have hg := grown_setCell w g j u
  by_cases h5 : j = 5
  · subst h5
    exact Kept.setKeep h ⟨Below.refl _ _, fun _ _ h _ _ _ => h, KeepC.of_cell rfl⟩ u (hj rfl)
  · refine ⟨(Below.refl n0 w).grown hg h.2.2.2.2.2.2 (fun k e => by simp at e; subst e; exact h.1.1), fun b o ho hk _ _ => (hg.block b (heap_lt ho) (fun e => hk (by simpa using e))).trans ho, KeepC.of_cell ?_⟩
    exact World.cell?_setCell_other _ _ _ _ (by simp <;> omega)
end
attribute [irreducible] DevAt Kept
attribute [local irreducible] MapIs

def newM (n : Int) : DevM := ⟨n, fun _ => none, [], false, 0, [], 0, 0⟩
theorem newM_fits {n : Int} (h1 : 1 ≤ n) (h2 : n ≤ 4096) : (newM n).fits := ⟨⟨h1, h2⟩, (fun x h => by cases h), (fun i s h => by cases h), ⟨Nat.le_refl _, Nat.le_refl _⟩, by constructor <;> simp [newM]⟩

set_option maxHeartbeats 800000 in
set_option maxRecDepth 100000 in
theorem devsize_any (n0 g : Nat) (d : DevM) (w : World) (h : Dev n0 w g d) :
    Calls Tryz.prog 33 #[.pointer (some ⟨g, 0, none⟩)] w fun e w' => e = .returned (.int .i64 d.size) ∧ w = w' := by
  obtain ⟨m, v, kv, h⟩ := h
  obtain ⟨⟨c0, _⟩, _⟩ := h.cells
  clear h
  go_enter Tryz.func33, Tryz.ntmps33
  go_wp2
  go_ret
  exact ⟨rfl, rfl⟩

end Go.Proofs.YtjlcbabnkhdgpaaGreatDoor
