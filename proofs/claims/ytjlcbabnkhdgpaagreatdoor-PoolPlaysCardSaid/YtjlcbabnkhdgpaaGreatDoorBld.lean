/-
  A strings.Builder of the call's own, as the list of its bytes.
-/
import Derived.Test.YtjlcbabnkhdgpaaGreatDoorBase
import Derived.Test.YtjlcbabnkhdgpaaGreatDoorShelf
namespace Go.Proofs.YtjlcbabnkhdgpaaGreatDoor
open Go.RowKit

/-- Block b is a Builder that holds the bytes l; its row lies at b or above. -/
def Bld (w : World) (b : Nat) (l : List UInt8) : Prop := Lib.IsBuilderF 105 5 b b (Lib.byteCells l) w

theorem ownsRowF_below {w w' : World} {base : Nat} {e : TypeId} {size : Nat} {v : Value} {n : Nat} {xs : List Value} (h : w.ownsRowF base e size v n xs) (hb : Below w.heap.size w w') : w'.ownsRowF base e size v n xs := by
  obtain ⟨h1, h2⟩ := h
  refine ⟨h1, ?_⟩
  rcases h2 with h2 | ⟨g, cap, cur, fz, hv, hg, hh, r⟩
  · exact Or.inl h2
  · refine Or.inr ⟨g, cap, cur, fz, hv, hg, ?_, r⟩
    have hlt : g < w.heap.size := by
      rcases Nat.lt_or_ge g w.heap.size with h' | h'
      · exact h'
      · simp [Array.getElem?_eq_none h'] at hh
    rw [hb.block g hlt]; exact hh

theorem Bld.below {w w' : World} {b : Nat} {l : List UInt8} (h : Bld w b l) (hb : Below w.heap.size w w') : Bld w' b l := by
  have key : ∀ p, Lib.BuilderAtF 105 5 b b p (Lib.byteCells l) w → Lib.BuilderAtF 105 5 b b p (Lib.byteCells l) w' := by
    rintro p ⟨hB, v, hh, ho, hne⟩
    have hlt : b < w.heap.size := Lib.BuilderAtF.lt ⟨hB, v, hh, ho, hne⟩
    exact ⟨hB, v, by rw [hb.block b hlt]; exact hh, ownsRowF_below ho hb, hne⟩
  rcases h with h | h
  · exact Or.inl (key _ h)
  · exact Or.inr (key _ h)
theorem Bld.drew {w : World} {b : Nat} {l : List UInt8} (h : Bld w b l) : Bld w.drew b l := h
theorem Bld.lt {w : World} {b : Nat} {l : List UInt8} (h : Bld w b l) : b < w.heap.size := by
  rcases h with h | h <;> exact h.lt

theorem Bld.new (w : World) : Bld (w.alloc (.cells #[.pointer none, .slice none 0 0] 105)) w.heap.size [] := by
  refine Or.inl ⟨Nat.le_refl _, .slice none 0 0, ?_, World.ownsRowF_nil _ _ _ _, by simp [Value.ownBlock]⟩
  show (w.heap.push _)[w.heap.size]? = _
  simp

theorem Bld.write {w : World} {b : Nat} {l : List UInt8} (h : Bld w b l) (s : List UInt8) (hlen : l.length + s.length ≤ 140737488355328) :
    Calls Tryz.prog 48 #[.pointer (some ⟨b, 0, none⟩), .string (bs s)] w fun e w' => e = .returned (.tuple #[.int .i64 s.length, .nilIface]) ∧ Bld w' b (l ++ s) ∧ Below b w w' ∧ Lib.OthersKept 5 (some b) w w' := by
  refine (Tryz.Builder_WriteString_k b b _ (bs s) w h (by rw [Lib.byteCells_length, bs_size]; exact hlen) (Nat.le_of_lt h.lt)).mono ?_
  rintro e w' ⟨rfl, h1, h2⟩
  refine ⟨by rw [bs_size], Or.inr ?_, h2⟩
  rw [Lib.strCells_eq, bs_data, ← Lib.byteCells_append] at h1
  exact h1
theorem Bld.len {w : World} {b : Nat} {l : List UInt8} (h : Bld w b l) :
    Calls Tryz.prog 50 #[.pointer (some ⟨b, 0, none⟩)] w fun e w' => e = .returned (.int .i64 l.length) ∧ w = w' := by
  refine (Tryz.Builder_Len_f b b _ w h).mono ?_
  rintro e w' ⟨rfl, h1⟩
  exact ⟨by rw [Lib.byteCells_length], h1.symm⟩
theorem Bld.str {w : World} {b : Nat} {l : List UInt8} (h : Bld w b l) :
    Calls Tryz.prog 52 #[.pointer (some ⟨b, 0, none⟩)] w fun e w' => e = .returned (.string (bs l)) ∧ Below b w w' := by
  refine (Tryz.Builder_String_any_f b b l w h (Nat.le_of_lt h.lt)).mono ?_
  rintro e w' ⟨rfl, h1⟩
  exact ⟨rfl, h1.2⟩
end Go.Proofs.YtjlcbabnkhdgpaaGreatDoor
