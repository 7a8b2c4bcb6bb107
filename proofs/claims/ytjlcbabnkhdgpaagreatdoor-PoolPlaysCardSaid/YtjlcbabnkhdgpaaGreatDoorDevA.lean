/-
  A map from numbers to texts, as a function; what a device holds.
-/
import Derived.Test.YtjlcbabnkhdgpaaGreatDoorBlk
import Derived.Maps.Own
import Derived.Maps.OwnSet
import Derived.Maps.Views
import Derived.Maps.Keyed
namespace Go.Proofs.YtjlcbabnkhdgpaaGreatDoor
set_option linter.unusedSimpArgs false
set_option linter.unusedVariables false
open Go.RowKit Go.Maps

def in64 (i : Int) : Prop := -9223372036854775808 ≤ i ∧ i ≤ 9223372036854775807
theorem in64_wf {i : Int} (h : in64 i) : (Lit.int .i64 i).wf = true := by
  unfold in64 at h
  simp [Lit.wf, IntKind.min, IntKind.max, IntKind.bits, IntKind.signed]
  omega
noncomputable abbrev RS : Value → Option (DataW Unit × List MemPlace) := plainElem Tryz.prog 9
/-- Block m is a map[int]string that answers as f; it has had at most N stores. -/
def MapIs (w : World) (m : Nat) (f : Int → Option (List UInt8)) (N : Nat) : Prop :=
  ∃ (n : Nat) (D : DataW Unit), n ≤ N ∧ w.ownsMap Tryz.prog 3 RS m n D ∧ IsMap D ∧
    ∀ i, in64 i → has D (.int .i64 i) = (f i).isSome ∧ ∀ d, f i = some d → ∀ z, D.atKey (.int .i64 i) z = .lit (.string d)
section
variable {w w' : World} {m N : Nat} {f : Int → Option (List UInt8)}
theorem key64 {i : Int} (h : in64 i) : keyOf Tryz.prog 3 (.int .i64 i) = some (.int .i64 i) := keyOf_int_mk Tryz.underlying3 (in64_wf h)
theorem keyed64 : Keyed Tryz.prog 3 := int_keyed Tryz.underlying3
theorem MapIs.made (w : World) : MapIs (w.alloc (.map #[] 0)) w.heap.size (fun _ => none) 0 :=
  ⟨0, .map [], Nat.le_refl _, World.ownsMap_made _ _ _ _, isMap_empty, fun i _ => ⟨rfl, fun d h => by cases h⟩⟩
theorem MapIs.lt (h : MapIs w m f N) : m < w.heap.size := by obtain ⟨_, _, _, h, _⟩ := h; exact h.lt
theorem MapIs.kept {row : Option Nat} (h : MapIs w m f N) (hg : w.grownBy w' row) (hne : some m ≠ row) : MapIs w' m f N := by
  obtain ⟨n, D, h1, h2, h3⟩ := h
  exact ⟨n, D, h1, h2.kept hg hne, h3⟩
theorem MapIs.up (h : MapIs w m f N) (hb : Below w.heap.size w w') : MapIs w' m f N := h.kept (grown_of_below hb none) (by simp)
/-- m[i] = d. -/
theorem MapIs.put (h : MapIs w m f N) (hN : N < 1000000000) (i : Int) (hi : in64 i) (d : List UInt8) (hd : d.length ≤ 1000000) :
    ∃ w', (Instr.mapUpdate 71 (.map (some m)) (.int .i64 i) (.string (bs d))).run Tryz.prog w = .ok () w' ∧ MapIs w' m (fun j => if j = i then some d else f j) (N + 1) ∧ w.grownBy w' (some m) := by
  obtain ⟨n, D, h1, h2, h3, h4⟩ := h
  have hv : RS (.string (bs d)) = some (.lit (.string d), []) := by
    have := plainElem_string (H := Unit) Tryz.underlying9 (s := bs d) (by rw [bs_size]; unfold maxLen; omega)
    simpa using this
  obtain ⟨w', hr, ho, hg⟩ := h2.update keyed64 Tryz.underlying71 (by unfold maxLen; omega) (key64 hi) hv
  refine ⟨w', hr, ⟨n + 1, _, by omega, ho, h3.put _ _, fun j hj => ?_⟩, hg⟩
  have hkl : WideAt.IsKeyLit (.int .i64 i : Lit) := keyed64.key (key64 hi)
  by_cases e : j = i
  · subst e
    refine ⟨by rw [has_put_same h3 hkl]; simp, fun d' hd' z => ?_⟩
    simp only [if_true] at hd'
    cases hd'
    exact atKey_put_same h3 hkl _ _
  · have hne : (Lit.int .i64 j) ≠ .int .i64 i := by intro h; injection h with _ h; exact e h
    refine ⟨by rw [has_put_other hne]; simp only [if_neg e]; exact (h4 j hj).1, fun d' hd' z => ?_⟩
    simp only [if_neg e] at hd'
    rw [atKey_put_other hne]
    exact (h4 j hj).2 d' hd' z
set_option maxRecDepth 100000 in
theorem rs_inv {v : Value} {x : DataW Unit} {ps : List MemPlace} (h : RS v = some (x, ps)) : ∃ s : ByteArray, v = .string s ∧ x = .lit (.string s.data.toList) := by
  unfold RS plainElem at h
  rw [Tryz.underlying9] at h
  cases v <;> simp at h
  obtain ⟨_, rfl, _⟩ := h
  exact ⟨_, rfl, rfl⟩
set_option maxRecDepth 100000 in
/-- v, ok := m[i]. -/
theorem MapIs.look (h : MapIs w m f N) (i : Int) (hi : in64 i) : ∃ v : List UInt8, (∀ d, f i = some d → v = d) ∧
    (Instr.lookup 71 (.map (some m)) (.int .i64 i) true).run Tryz.prog w = .ok (.tuple #[.string (bs v), .bool (f i).isSome]) w := by
  obtain ⟨n, D, h1, h2, h3, h4⟩ := h
  have hz : (zeroValue 9).run Tryz.prog w = .ok (.string ⟨#[]⟩) w := Tryz.zeroValue9 w
  have hzd : RS (.string ⟨#[]⟩) = some (.lit (.string []), []) := by
    have := plainElem_string (H := Unit) Tryz.underlying9 (s := ⟨#[]⟩) (by unfold maxLen; decide)
    simpa using this
  obtain ⟨v, ps, hr, hv⟩ := h2.look_ok keyed64 Tryz.underlying71 hz hzd (key64 hi)
  rw [(h4 i hi).1] at hr
  obtain ⟨s, rfl, hs⟩ := rs_inv hv
  refine ⟨s.data.toList, fun d hd => ?_, by rw [bs_of]; exact hr⟩
  have := (h4 i hi).2 d hd (.lit (.string []))
  rw [this] at hs
  injection hs with hs
  injection hs with hs
  exact hs.symm
end
end Go.Proofs.YtjlcbabnkhdgpaaGreatDoor
