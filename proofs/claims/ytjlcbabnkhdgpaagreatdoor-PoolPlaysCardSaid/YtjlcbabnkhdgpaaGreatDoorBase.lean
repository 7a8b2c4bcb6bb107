/-
  Words of this seat's own: strings as lists of bytes ('bs l'), facts kept from the walk.
-/
import Derived.Test.YtjlcbabnkhdgpaaGreatDoorProg
import Derived.WalkKit
import Derived.Below
import Derived.Carry
import Derived.KernelRfl
import Derived.Deep.LoopGhost
import Derived.Deep.QuietTactic
import Derived.BigQuiet
import Derived.Deep.DeepCutAuto
import Derived.Deep.CutBlock
import Derived.Deep.DeepFit
import Derived.WalkSpells
import Derived.WalkLawsBesides
import Derived.Outline
import Derived.Lib.Hide
import Derived.Deep.Draws
import Derived.Deep.RegionWith
import Derived.RegionTactic
import Derived.BigRegion
import Derived.Laws.BitsLemmas
import Derived.Laws.BytesArg
import Derived.Laws.MakeOwn
import Derived.Laws.OwnMore
import Derived.Lib.UnsafeStr
import Derived.Lib.ConvBytes
namespace Go.Proofs.YtjlcbabnkhdgpaaGreatDoor
open Go.RowKit

/-- A string, as the list of its bytes. -/
def bs (l : List UInt8) : ByteArray := ⟨l.toArray⟩
@[simp] theorem bs_data (l : List UInt8) : (bs l).data.toList = l := rfl
theorem bs_of (s : ByteArray) : bs s.data.toList = s := by cases s; simp [bs]
@[simp] theorem bs_size (l : List UInt8) : (bs l).size = l.length := by simp [bs, ByteArray.size]
theorem bs_append (a b : List UInt8) : bs a ++ bs b = bs (a ++ b) := by
  apply ByteArray.ext; simp [bs]
theorem bs_nil : (⟨#[]⟩ : ByteArray) = bs [] := rfl
theorem bs_inj {a b : List UInt8} (h : bs a = bs b) : a = b := by
  have := congrArg (fun s => s.data.toList) h; simpa using this
theorem bs_extract (l : List UInt8) (i j : Nat) : (bs l).extract i j = bs ((l.take j).drop i) := by
  apply ByteArray.ext
  simp only [bs, ByteArray.data_extract, List.extract_toArray, List.extract_eq_take_drop]
  rw [List.drop_take]
@[simp] theorem bs_toList (l : List UInt8) : (bs l).toList = l := by rw [ByteArray.toList_eq]; rfl
attribute [go_sem] bs_append bs_extract bs_toList
theorem ret_int {k : IntKind} {a b : Int} (h : a = b) : Ending.returned (.int k a) = .returned (.int k b) := by rw [h]
theorem ret_bool {a b : Bool} (h : a = b) : Ending.returned (.bool a) = .returned (.bool b) := by rw [h]
theorem ret_str {a b : List UInt8} (h : a = b) : Ending.returned (.string (bs a)) = .returned (.string (bs b)) := by rw [h]
theorem bs_get (l : List UInt8) (k : Nat) (h : k < (bs l).size) : (bs l)[k] = l[k]'(by simpa using h) := rfl

theorem or64 (a b : Nat) (ha : a < 2 ^ 54) (hb : b < 256) : bits .or .i64 (wrap64 ((a : Int) * 256)) (wrap64 (b : Int)) = ((a * 256 + b : Nat) : Int) := by
  have e1 : wrap64 ((a : Int) * 256) = (a : Int) * 256 := by unfold wrap64; omega
  have e2 : wrap64 (b : Int) = (b : Int) := by unfold wrap64; omega
  rw [e1, e2, bits_join .i64 63 (by decide) (fun n h0 h1 => by rw [IntKind.wrap_i64]; omega) 8 _ _ (by omega) (by omega) (by omega) (by omega) (by omega) (by omega)]
  omega

theorem below_drewN {B : Nat} {a w : World} (h : Below B a w) (n : Nat) : Below B a (w.drewN n) := ⟨h.os, h.tape, h.output, h.size, h.block⟩
/-- Block g is a row of bytes, nothing of it frozen. -/
def RowB (w : World) (g : Nat) (l : List UInt8) : Prop := w.heap[g]? = some (.cells (Lib.byteCells l).toArray 5 (0, 0))

theorem RowB.cell {w : World} {g : Nat} {l : List UInt8} (h : RowB w g l) (j : Nat) (hj : j < l.length) : w.cell? ⟨g, j, none⟩ = some (.int .u8 (l[j].toNat : Int)) := by
  unfold RowB at h
  simp [World.cell?, h, Lib.byteCells, hj]
theorem RowB.cell_ex {w : World} {g : Nat} {l : List UInt8} (h : RowB w g l) (j : Nat) (hj : j < l.length) : ∃ v, w.cell? ⟨g, j, none⟩ = some v := ⟨_, h.cell j hj⟩
theorem RowB.frozen {w : World} {g : Nat} {l : List UInt8} (h : RowB w g l) (j : Nat) : w.frozen? ⟨g, j, none⟩ = false := by
  unfold RowB at h
  simp [World.frozen?, h]
theorem RowB.lt {w : World} {g : Nat} {l : List UInt8} (h : RowB w g l) : g < w.heap.size := by
  unfold RowB at h
  rcases Nat.lt_or_ge g w.heap.size with h' | h'
  · exact h'
  · simp [Array.getElem?_eq_none h'] at h
theorem RowB.set {w : World} {g : Nat} {l : List UInt8} (h : RowB w g l) (j : Nat) (b : UInt8) (v : Int) (hv : v = b.toNat) : RowB (w.setCell ⟨g, j, none⟩ (.int .u8 v)) g (l.set j b) := by
  unfold RowB at h ⊢
  subst hv
  simp [World.setCell, Array.getElem?_modify, h, Lib.byteCells, List.map_set]
theorem RowB.below {w w' : World} {g B : Nat} {l : List UInt8} (h : RowB w g l) (hb : Below B w w') (hg : g < B) : RowB w' g l := by
  unfold RowB at h ⊢
  rw [hb.block g hg]; exact h
theorem RowB.conv {w : World} {g : Nat} {l : List UInt8} (h : RowB w g l) (n c : Nat) (hn : n = l.length) : (convert 42 9 (.slice (some ⟨g, 0, none⟩) n c)).run Tryz.prog w = .ok (.string (bs l)) w := by
  have := run_convert_bytes_arg (P := Tryz.prog) w 42 5 Tryz.underlying42 Tryz.underlying5 g 0 n c (l.map fun b => (b.toNat : Int)) (by simp [hn]) (fun i hi => by
    rw [Nat.zero_add, h.cell i (by omega)]
    have : i < l.length := by omega
    simp [List.getD, this]) 9 Tryz.underlying9
  have e : strOfNums (l.map fun b => (b.toNat : Int)) = bs l := by
    apply ByteArray.ext
    simp [strOfNums, bs, Function.comp_def]
  rw [this, e]
theorem run_make_bytes (w : World) (n : Int) (h0 : 0 ≤ n) (h1 : n ≤ 140737488355328) :
    (Instr.makeSlice 42 (.int .i64 n) (.int .i64 n)).run Tryz.prog w = .ok (.slice (some ⟨w.heap.size, 0, none⟩) n.toNat n.toNat) (w.alloc (.cells (Lib.byteCells (List.replicate n.toNat 0)).toArray 5)) := by
  obtain ⟨i, hi⟩ : ∃ i, Tryz.prog.info? 5 = some i := Option.isSome_iff_exists.1 (by kernel_rfl)
  have hz : i.zero = some (.int .u8 0) := by
    have : (Tryz.prog.info? 5).bind (·.zero) = some (.int .u8 0) := by kernel_rfl
    rw [hi] at this; exact this
  have hs : i.size = 1 := by
    have : (Tryz.prog.info? 5).map (·.size) = some 1 := by kernel_rfl
    rw [hi] at this; simpa using this
  have hb : i.bytes = 1 := by
    have : (Tryz.prog.info? 5).map (·.bytes) = some 1 := by kernel_rfl
    rw [hi] at this; simpa using this
  have := run_make (P := Tryz.prog) w 42 5 i (.int .u8 0) Tryz.underlying42 hi hz .i64 .i64 n n h0 (Int.le_refl _) (by rw [hb]; omega) (by omega)
  have e : madeCells (Value.int .u8 0).cells n.toNat = (Lib.byteCells (List.replicate n.toNat 0)).toArray := by
    simp only [madeCells, Value.cells, Lib.byteCells, List.map_replicate]
    apply Array.ext'
    apply List.ext_getElem
    · simp
    · intro j h1 h2
      simp [Nat.mod_one]
  rw [this, hs, Nat.mul_one, e]
theorem RowB.made (w : World) (l : List UInt8) : RowB (w.alloc (.cells (Lib.byteCells l).toArray 5)) w.heap.size l := by
  unfold RowB
  show (w.heap.push _)[w.heap.size]? = _
  simp
end Go.Proofs.YtjlcbabnkhdgpaaGreatDoor
