/-
  Blocks of cells and what owns them (for seats that lack the page's Decode).
-/
import Derived.Test.YtjlcbabnkhdgpaaGreatDoorPageD
import Derived.Test.YtjlcbabnkhdgpaaGreatDoorLate
namespace Go.Proofs.YtjlcbabnkhdgpaaGreatDoor
set_option linter.unusedSimpArgs false
set_option linter.unusedVariables false
open Go.RowKit

theorem grown_setCell (w : World) (g j : Nat) (v : Value) : w.grownBy (w.setCell ⟨g, j, none⟩ v) (some g) :=
  ⟨rfl, rfl, rfl, by simp [World.setCell], fun k _ hk => Below.heap_setCell _ _ _ _ (fun e => hk (by simp [e]))⟩
section
variable {w0 w w' : World}
theorem ownsRow_grown {base : Nat} {e : TypeId} {size : Nat} {v : Value} {n : Nat} {xs : List Value} {r : Option Nat} (h : w.ownsRow base e size v n xs) (hb : w.grownBy w' r)
    (hr : ∀ g, r = some g → ∀ cs fz, w.heap[g]? ≠ some (.cells cs e fz)) : w'.ownsRow base e size v n xs := by
  obtain ⟨h1, h2⟩ := h
  refine ⟨h1, ?_⟩
  rcases h2 with h2 | ⟨g, cap, cur, hv, hg, hh, q⟩
  · exact Or.inl h2
  · exact Or.inr ⟨g, cap, cur, hv, hg, (hb.block g (heap_lt hh) (fun e => hr g e.symm _ _ hh)).trans hh, q⟩
theorem below_of_grown {B : Nat} {r : Option Nat} (h : Below B w0 w) (hb : w.grownBy w' r) (hB : B ≤ w.heap.size) (hr : ∀ g, r = some g → B ≤ g) : Below B w0 w' := h.grown hb hB hr
theorem grown_of_below (h : Below w.heap.size w w') (r : Option Nat) : w.grownBy w' r := ⟨h.os, h.tape, h.output, h.size, fun k hk _ => h.block k hk⟩
end
/-- Block g is just these cells, of type T. -/
def Blk (w : World) (g : Nat) (T : TypeId) (cs : Array Value) : Prop := w.heap[g]? = some (.cells cs T (0, 0))
section
variable {w w' : World} {g : Nat} {T : TypeId} {cs : Array Value}
theorem Blk.made (w : World) (cs : Array Value) (T : TypeId) : Blk (w.alloc (.cells cs T)) w.heap.size T cs := by
  show (w.heap.push _)[w.heap.size]? = _
  simp
theorem Blk.lt (h : Blk w g T cs) : g < w.heap.size := heap_lt h
theorem Blk.up (h : Blk w g T cs) (hb : Below w.heap.size w w') : Blk w' g T cs := (hb.block g h.lt).trans h
theorem Blk.alloc (h : Blk w g T cs) (o : Obj) : Blk (w.alloc o) g T cs := h.up ((Below.refl _ _).alloc (Nat.le_refl _) _)
theorem Blk.grown {r : Option Nat} (h : Blk w g T cs) (hb : w.grownBy w' r) (hg : some g ≠ r) : Blk w' g T cs := (hb.block g h.lt hg).trans h
theorem Blk.set (h : Blk w g T cs) (j : Nat) (v : Value) : Blk (w.setCell ⟨g, j, none⟩ v) g T (cs.setIfInBounds j v) := by
  unfold Blk at *
  simp [World.setCell, Array.getElem?_modify, h]
theorem Blk.setOther (h : Blk w g T cs) {g' : Nat} (hne : g ≠ g') (j : Nat) (v : Value) : Blk (w.setCell ⟨g', j, none⟩ v) g T cs := h.grown (grown_setCell w g' j v) (by simpa using hne)
theorem Blk.cell (h : Blk w g T cs) (j : Nat) : w.cell? ⟨g, j, none⟩ = cs[j]? := by unfold Blk at h; simp [World.cell?, h]
theorem Blk.frozen (h : Blk w g T cs) (j : Nat) : w.frozen? ⟨g, j, none⟩ = false := by unfold Blk at h; simp [World.frozen?, h]
theorem Blk.ne {g' : Nat} {T' : TypeId} {cs' : Array Value} (h : Blk w g T cs) (h' : Blk w g' T' cs') (hT : T ≠ T') : g ≠ g' := by
  intro e; subst e; unfold Blk at *; rw [h] at h'; simp at h'; exact hT h'.2
theorem Blk.notOwn {base : Nat} {e : TypeId} {size : Nat} {v : Value} {n : Nat} {xs : List Value} (h : Blk w g T cs) (ho : w.ownsRow base e size v n xs) (hT : T ≠ e) : some g ≠ v.ownBlock := by
  intro hv
  obtain ⟨_, hh⟩ := ho
  rcases hh with ⟨hv', _⟩ | ⟨g', cap, cur, hv', hg', hh, _⟩
  · subst hv'; simp [Value.ownBlock] at hv
  · subst hv'; simp [Value.ownBlock] at hv; subst hv; unfold Blk at h; rw [hh] at h; simp at h; exact hT h.2.symm
theorem own_grown {base : Nat} {e : TypeId} {size : Nat} {v : Value} {n : Nat} {xs : List Value} (ho : w.ownsRow base e size v n xs) (h : Blk w g T cs) (hT : T ≠ e) (hg : w.grownBy w' (some g)) : w'.ownsRow base e size v n xs :=
  ownsRow_grown ho hg (fun g' e' cs' fz hh => by
    simp at e'
    subst e'
    unfold Blk at h
    rw [h] at hh
    simp at hh
    exact hT hh.2.1)
/-- Two rows of different elements: what is written to one leaves the other. -/
theorem own_own {base : Nat} {e e' : TypeId} {size size' : Nat} {v v' : Value} {n n' : Nat} {xs xs' : List Value} (ho : w.ownsRow base e size v n xs) (ho' : w.ownsRow base e' size' v' n' xs') (hT : e ≠ e') (hg : w.grownBy w' v'.ownBlock) : w'.ownsRow base e size v n xs := by
  refine ownsRow_grown ho hg (fun g hv cs fz hh => ?_)
  obtain ⟨_, hh'⟩ := ho'
  rcases hh' with ⟨hv', _⟩ | ⟨g', cap, cur, hv', hg', hh', _⟩
  · subst hv'; simp [Value.ownBlock] at hv
  · subst hv'; simp [Value.ownBlock] at hv; subst hv; rw [hh'] at hh; simp at hh; exact hT hh.2.1.symm
theorem ownsRow_far {base : Nat} {e : TypeId} {size : Nat} {v : Value} {n : Nat} {xs : List Value} (h : w.ownsRow base e size v n xs) (hb : w.grownBy w' (some g)) (hne : some g ≠ v.ownBlock) : w'.ownsRow base e size v n xs := by
  obtain ⟨h1, h2⟩ := h
  refine ⟨h1, ?_⟩
  rcases h2 with h2 | ⟨g', cap, cur, hv, hg, hh, q⟩
  · exact Or.inl h2
  · exact Or.inr ⟨g', cap, cur, hv, hg, (hb.block g' (heap_lt hh) (fun e => hne (by rw [hv, ← e]; rfl))).trans hh, q⟩
end
end Go.Proofs.YtjlcbabnkhdgpaaGreatDoor
