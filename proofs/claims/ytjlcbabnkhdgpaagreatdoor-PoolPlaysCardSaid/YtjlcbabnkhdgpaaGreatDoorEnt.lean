/-
  Entries in memory: a slice of structs of three cells reads as a list.
-/
import Derived.Test.YtjlcbabnkhdgpaaGreatDoorBase
import Derived.Test.YtjlcbabnkhdgpaaGreatDoorPlain
import Derived.Deep.AppendLies
import Derived.Deep.Draws
namespace Go.Proofs.YtjlcbabnkhdgpaaGreatDoor
open Go.RowKit

theorem block_of_add (a : Addr) (n : Nat) : (a.add n).block = a.block := by unfold Addr.add; split <;> rfl
theorem add_of_add (a : Addr) (i j : Nat) : (a.add i).add j = a.add (i + j) := by
  unfold Addr.add
  by_cases hi : i = 0 <;> by_cases hj : j = 0 <;> simp [hi, hj, Nat.add_assoc]

/-- The slice with address A and n elements of 'size' cells, below block B, holds the cells xs. -/
def Reads (w : World) (B size : Nat) (A : Option Addr) (n : Nat) (xs : List Value) : Prop :=
  xs.length = n * size ∧ (0 < n → ∃ ad, A = some ad ∧ ad.block < B ∧ ∀ j u, xs[j]? = some u → w.cell? (ad.add j) = some u)

section
variable {w w' : World} {B B' size n : Nat} {A : Option Addr} {xs : List Value}
theorem Reads.none_ : Reads w B size A 0 [] := ⟨by simp, fun h => absurd h (by omega)⟩
theorem Reads.keep (h : Reads w B size A n xs) (hk : ∀ p : Addr, p.block < B → w'.cell? p = w.cell? p) : Reads w' B size A n xs :=
  ⟨h.1, fun hn => by
    obtain ⟨ad, e, hb, hc⟩ := h.2 hn
    exact ⟨ad, e, hb, fun j u hu => (hk _ (by rw [block_of_add]; exact hb)).trans (hc j u hu)⟩⟩
theorem Reads.more (h : Reads w B size A n xs) (hB : B ≤ B') : Reads w B' size A n xs :=
  ⟨h.1, fun hn => by
    obtain ⟨ad, e, hb, hc⟩ := h.2 hn
    exact ⟨ad, e, by omega, hc⟩⟩
theorem Reads.below (h : Reads w B size A n xs) (hb : Below B w w') : Reads w' B size A n xs := h.keep fun _ hp => hb.cell hp
theorem Reads.drew (h : Reads w B size A n xs) : Reads w.drew B size A n xs := h
theorem Reads.alloc (h : Reads w B size A n xs) (hB : B ≤ w.heap.size) (o : Obj) : Reads (w.alloc o) B size A n xs := h.keep fun p hp => World.cell?_alloc_lt w o p (by omega)
theorem Reads.setCell (h : Reads w B size A n xs) {p : Addr} (hB : B ≤ p.block) (u : Value) : Reads (w.setCell p u) B size A n xs :=
  h.keep fun q hq => World.cell?_setCell_other w p q u (fun e => by subst e; omega)
theorem Reads.of_own {base : Nat} {e : TypeId} {c : Nat} (h : w.ownsRow base e size (.slice A n c) n xs) : Reads w w.heap.size size A n xs := by
  refine ⟨h.1, fun hn => ?_⟩
  obtain ⟨g, cap, hv, _, hlt⟩ := h.form hn
  have hA : A = some ⟨g, 0, none⟩ := by injection hv
  subst hA
  exact ⟨_, rfl, hlt, h.cells (g := g) rfl⟩
end

def entCells (e : Ent) : List Value := [.string (bs e.key), .string (bs e.value), .bool e.marked]
def entsCells (l : List Ent) : List Value := l.flatMap entCells
theorem entsCells_length (l : List Ent) : (entsCells l).length = l.length * 3 := by
  induction l with
  | nil => rfl
  | cons e l ih => simp only [entsCells, List.flatMap_cons, List.length_append, List.length_cons] at *; rw [ih]; simp [entCells]; omega
theorem entsCells_snoc (l : List Ent) (e : Ent) : entsCells (l ++ [e]) = entsCells l ++ entCells e := by simp [entsCells]
theorem entsCells_at (l : List Ent) (k : Nat) (hk : k < l.length) (j : Nat) (hj : j < 3) : (entsCells l)[k * 3 + j]? = (entCells l[k])[j]? := by
  induction l generalizing k with
  | nil => simp at hk
  | cons e l ih =>
    have hl : (entCells e).length = 3 := rfl
    rw [entsCells, List.flatMap_cons]
    cases k with
    | zero => rw [List.getElem?_append_left (by omega)]; simp
    | succ k =>
      rw [List.getElem?_append_right (by omega), hl, show (k + 1) * 3 + j - 3 = k * 3 + j from by omega]
      exact ih k (by simpa using hk)

/-- The slice reads as these entries. -/
def ReadsE (w : World) (B : Nat) (A : Option Addr) (l : List Ent) : Prop := Reads w B 3 A l.length (entsCells l)

theorem ReadsE.at_ {w : World} {B : Nat} {A : Option Addr} {l : List Ent} (h : ReadsE w B A l) (k : Nat) (hk : k < l.length) :
    ∃ b o, A = some ⟨b, o, none⟩ ∧ b < B ∧ w.cell? ⟨b, o + k * 3, none⟩ = some (.string (bs l[k].key)) ∧
      w.cell? ⟨b, o + k * 3 + 1, none⟩ = some (.string (bs l[k].value)) ∧ w.cell? ⟨b, o + k * 3 + 2, none⟩ = some (.bool l[k].marked) := by
  obtain ⟨⟨b, o, s⟩, rfl, hb, hc⟩ := h.2 (by omega)
  have hs : s = none := by
    have h0 := hc (0 * 3 + 0) _ (entsCells_at l 0 (by omega) 0 (by decide))
    cases s with
    | none => rfl
    | some x =>
      simp only [World.cell?, Addr.add] at h0
      split at h0 <;> simp at h0
  subst hs
  have ha : ∀ n, (⟨b, o, none⟩ : Addr).add n = ⟨b, o + n, none⟩ := fun n => by unfold Addr.add; split <;> simp_all
  refine ⟨b, o, rfl, hb, ?_, ?_, ?_⟩
  · rw [← ha]; exact hc _ _ (entsCells_at l k hk 0 (by decide))
  · rw [Nat.add_assoc, ← ha]; exact hc _ _ (entsCells_at l k hk 1 (by decide))
  · rw [Nat.add_assoc, ← ha]; exact hc _ _ (entsCells_at l k hk 2 (by decide))
theorem ReadsE.below {w w' : World} {B : Nat} {A : Option Addr} {l : List Ent} (h : ReadsE w B A l) (hb : Below B w w') : ReadsE w' B A l := Reads.below h hb
end Go.Proofs.YtjlcbabnkhdgpaaGreatDoor
