/-
  Walks: rows of strings; the document's pages: New.
-/
import Derived.Test.YtfkhgmdnajiabaaDoorTwT
namespace Go.Proofs.YtfkhgmdnajiabaaDoor
set_option linter.unusedSimpArgs false
set_option linter.unusedVariables false
open Go.RowKit Go.Maps

def strCells (l : List (List UInt8)) : List Value := l.map fun s => .string (bs s)
theorem strCells_snoc (l : List (List UInt8)) (s : List UInt8) : strCells (l ++ [s]) = strCells l ++ [.string (bs s)] := by simp [strCells]
theorem strCells_length (l : List (List UInt8)) : (strCells l).length = l.length := by simp [strCells]
theorem info_str : ∃ i z, Tryd.prog.info? 9 = some i ∧ i.zero = some z ∧ i.size = 1 ∧ i.bytes = 16 ∧ z.cells.size = 1 := by
  have h : (Tryd.prog.info? 9).bind (fun i => i.zero.map fun z => (i.size, i.bytes, z.cells.size)) = some (1, 16, 1) := by kernel_rfl
  cases hi : Tryd.prog.info? 9 with
  | none => rw [hi] at h; simp at h
  | some i =>
    rw [hi] at h
    cases hz : i.zero with
    | none => simp [hz] at h
    | some z =>
      simp [hz] at h
      exact ⟨i, z, rfl, hz, h.1, h.2.1, h.2.2⟩
/-- A row of strings that is the call's own. -/
abbrev Strs (n0 : Nat) (w : World) (v : Value) (l : List (List UInt8)) : Prop := w.ownsRow n0 9 1 v l.length (strCells l)
theorem strs_append (base : Nat) (v : Value) (l ks : List (List UInt8)) (a : Addr) (cap : Nat) (w : World) (ho : Strs base w v l) (hs : ∀ j u, (strCells ks)[j]? = some u → w.cell? (a.add j) = some u) (hl : l.length ≤ 1000000) (hk : ks.length ≤ 1000000) (hw : base ≤ w.heap.size) :
    ∃ v' w', (Builtin.append_ #[56, 56] 56 #[v, .slice (some a) ks.length cap]).run Tryd.prog w = .ok v' w' ∧ Strs base w' v' (l ++ ks) ∧ w.grownBy w' v.ownBlock ∧ (v'.ownBlock = v.ownBlock ∨ v'.ownBlock = some w.heap.size) := by
  obtain ⟨i, z, hi, hz, hsz, hby, hzs⟩ := info_str
  obtain ⟨v', w', hr, q1, q2, _, q3⟩ := run_append_own_at (P := Tryd.prog) w base 56 56 9 i z 1 16 Tryd.underlying56 hi hz hsz hby hzs (by decide) v l.length _ ho a ks.length cap (strCells ks) (by simp [strCells_length]) hs
    (fun u hu => by obtain ⟨x, _, rfl⟩ := List.mem_map.1 hu; rfl) (by unfold maxLen; omega) (by omega) hw
  refine ⟨v', w', hr, ?_, q2, q3⟩
  unfold Strs
  rw [List.length_append, show strCells (l ++ ks) = strCells l ++ strCells ks from List.map_append]
  exact q1
theorem str_append (base : Nat) (v : Value) (l : List (List UInt8)) (s : List UInt8) (gb : Nat) (w : World) (ho : Strs base w v l) (hb : Blk w gb 9 #[.string (bs s)]) (hl : l.length ≤ 1000000) (hw : base ≤ w.heap.size) :
    ∃ v' w', (Builtin.append_ #[56, 56] 56 #[v, .slice (some ⟨gb, 0, none⟩) 1 1]).run Tryd.prog w = .ok v' w' ∧ Strs base w' v' (l ++ [s]) ∧ w.grownBy w' v.ownBlock ∧ (v'.ownBlock = v.ownBlock ∨ v'.ownBlock = some w.heap.size) :=
  strs_append base v l [s] ⟨gb, 0, none⟩ 1 w ho (fun j u hu => World.news_of_block hb j u (by simpa [strCells] using hu)) hl (by simp) hw
theorem Strs.slice {n0 : Nat} {w : World} {v : Value} {l : List (List UInt8)} (h : Strs n0 w v l) : ∃ A c, v = .slice A l.length c := by
  rcases h.2 with ⟨h1, h2⟩ | ⟨g, cap, cur, h1, _⟩
  · exact ⟨none, 0, by rw [h1, h2]⟩
  · exact ⟨_, _, h1⟩
theorem Strs.form {n0 : Nat} {w : World} {v : Value} {l : List (List UInt8)} (h : Strs n0 w v l) : ∃ A n c, v = .slice A n c := by
  obtain ⟨A, c, h⟩ := h.slice
  exact ⟨A, _, c, h⟩
/-- Two rows of strings, apart. -/
structure Two (n0 : Nat) (w : World) (u v : Value) (xs ys : List (List UInt8)) : Prop where
  one : Strs n0 w u xs
  two : Strs n0 w v ys
  apart : u.ownBlock = none ∨ u.ownBlock ≠ v.ownBlock
  at0 : n0 ≤ w.heap.size
section
variable {w w' : World} {n0 : Nat} {u v : Value} {xs ys : List (List UInt8)} {s : List UInt8} {gb : Nat}
theorem Two.up (h : Two n0 w u v xs ys) (hb : Below w.heap.size w w') : Two n0 w' u v xs ys :=
  ⟨ownsRow_grown h.one (grown_of_below hb none) (by simp), ownsRow_grown h.two (grown_of_below hb none) (by simp), h.apart, Nat.le_trans h.at0 hb.size⟩
theorem Two.swap (h : Two n0 w u v xs ys) : Two n0 w v u ys xs := by
  refine ⟨h.two, h.one, ?_, h.at0⟩
  cases hv : v.ownBlock with
  | none => exact Or.inl rfl
  | some k =>
    right
    intro e
    rcases h.apart with h' | h'
    · rw [h'] at e; cases e
    · exact h' (by rw [hv, ← e])
theorem Two.append (h : Two n0 w u v xs ys) (hb : Blk w gb 9 #[.string (bs s)]) (hl : xs.length ≤ 1000000) :
    ∃ u' w', (Builtin.append_ #[56, 56] 56 #[u, .slice (some ⟨gb, 0, none⟩) 1 1]).run Tryd.prog w = .ok u' w' ∧ Two n0 w' u' v (xs ++ [s]) ys ∧ w.grownBy w' u.ownBlock := by
  obtain ⟨u', w', hr, q1, q2, q3⟩ := str_append n0 u xs s gb w h.one hb hl h.at0
  refine ⟨u', w', hr, ⟨q1, h.two.kept q2 ?_, ?_, Nat.le_trans h.at0 q2.size⟩, q2⟩
  · have := h.swap.apart; exact this
  · rcases q3 with q3 | q3
    · rw [q3]; exact h.apart
    · right
      rw [q3]
      intro e
      have := (h.two.lt _ e.symm).2
      omega
theorem Two.below (h : Two n0 w u v xs ys) (hg : w.grownBy w' u.ownBlock) {n1 : Nat} {w0 : World} (hb : Below n1 w0 w) (hn : n1 ≤ n0) : Below n1 w0 w' :=
  hb.grown hg (Nat.le_trans hn h.at0) (fun k e => Nat.le_trans hn (h.one.lt k e).1)
theorem Two.blk (h : Two n0 w u v xs ys) (hg : w.grownBy w' u.ownBlock) {T : TypeId} {cs : Array Value} {b : Nat} (hb : Blk w b T cs) (hT : T ≠ 9) : Blk w' b T cs :=
  hb.grown hg (hb.notOwn h.one hT)
theorem Two.blkAt (h : Two n0 w u v xs ys) (hg : w.grownBy w' u.ownBlock) {T : TypeId} {cs : Array Value} {b : Nat} (hb : Blk w b T cs) (hne : u.ownBlock ≠ some b) : Blk w' b T cs :=
  hb.grown hg (fun e => hne e.symm)
theorem Two.setBlk (h : Two n0 w u v xs ys) {T : TypeId} {cs : Array Value} {b : Nat} (hb : Blk w b T cs) (hT : T ≠ 9) (j : Nat) (x : Value) : Two n0 (w.setCell ⟨b, j, none⟩ x) u v xs ys :=
  ⟨own_grown h.one hb hT (grown_setCell w b j x), own_grown h.two hb hT (grown_setCell w b j x), h.apart, by simpa [World.setCell] using h.at0⟩
/-- A fresh block is in no row. -/
theorem Two.fresh (h : Two n0 w u v xs ys) : u.ownBlock ≠ some w.heap.size := fun e => by have := (h.one.lt _ e).2; omega
end
end Go.Proofs.YtfkhgmdnajiabaaDoor
