/-
  Walks: a page as bytes: Encode.
-/
import Derived.Test.YtjlcbabnkhdgpaaGreatDoorPageC
import Derived.Test.YtjlcbabnkhdgpaaGreatDoorBld
import Derived.Deep.RegionHeld3
namespace Go.Proofs.YtjlcbabnkhdgpaaGreatDoor
open Go.RowKit

/-- The cells of a page's struct; the block that holds them. -/
abbrev pgCells (p : Pg) (A : Option Addr) (c : Nat) : Array Value := #[.int .i64 p.lsn, .int .i64 p.kind, .int .i64 p.level, .int .i64 p.right, .string (bs p.high), .slice A p.ents.length c]
def PBox (w : World) (g : Nat) (p : Pg) (A : Option Addr) (c : Nat) : Prop :=
  w.cell? ⟨g, 0, none⟩ = some (.int .i64 p.lsn) ∧ w.cell? ⟨g, 1, none⟩ = some (.int .i64 p.kind) ∧ w.cell? ⟨g, 2, none⟩ = some (.int .i64 p.level) ∧
  w.cell? ⟨g, 3, none⟩ = some (.int .i64 p.right) ∧ w.cell? ⟨g, 4, none⟩ = some (.string (bs p.high)) ∧ w.cell? ⟨g, 5, none⟩ = some (.slice A p.ents.length c)
theorem PBox.made (w : World) (p : Pg) (A : Option Addr) (c : Nat) (T : TypeId) : PBox (w.alloc (.cells (pgCells p A c) T)) w.heap.size p A c := by
  unfold PBox
  simp [World.cell?_alloc_new]
theorem PBox.below {w w' : World} {g B : Nat} {p : Pg} {A : Option Addr} {c : Nat} (h : PBox w g p A c) (hb : Below B w w') (hg : g < B) : PBox w' g p A c := by
  unfold PBox at *
  have e : ∀ j, w'.cell? ⟨g, j, none⟩ = w.cell? ⟨g, j, none⟩ := fun j => hb.cell hg
  rw [e, e, e, e, e, e]; exact h

/-- What Encode keeps: its page's struct in block g, its Builder in block nb; all that was there. -/
def EInv (w0 : World) (g nb : Nat) (p : Pg) (A : Option Addr) (c : Nat) (l : List UInt8) (w : World) : Prop :=
  Below w0.heap.size w0 w ∧ PBox w g p A c ∧ ReadsE w nb A p.ents ∧ Bld w nb l ∧ g < nb ∧ w0.heap.size ≤ g
theorem EInv.below {w0 w w' : World} {g nb : Nat} {p : Pg} {A : Option Addr} {c : Nat} {l : List UInt8} (h : EInv w0 g nb p A c l w) (hb : Below w.heap.size w w') : EInv w0 g nb p A c l w' := by
  obtain ⟨h1, h2, h3, h4, h5, h6⟩ := h
  have hlt := h4.lt
  exact ⟨h1.trans (hb.mono h1.size), h2.below hb (by omega), h3.keep fun q hq => hb.cell (by omega), h4.below hb, h5, h6⟩
theorem EInv.drew {w0 w : World} {g nb : Nat} {p : Pg} {A : Option Addr} {c : Nat} {l : List UInt8} (h : EInv w0 g nb p A c l w) : EInv w0 g nb p A c l w.drew := by
  obtain ⟨h1, h2, h3, h4, h5, h6⟩ := h
  exact ⟨h1.drew, h2, h3, h4, h5, h6⟩
theorem EInv.alloc {w0 w : World} {g nb : Nat} {p : Pg} {A : Option Addr} {c : Nat} {l : List UInt8} (h : EInv w0 g nb p A c l w) (o : Obj) : EInv w0 g nb p A c l (w.alloc o) :=
  h.below ((Below.refl _ _).alloc (Nat.le_refl _) _)
theorem EInv.wrote {w0 w w' : World} {g nb : Nat} {p : Pg} {A : Option Addr} {c : Nat} {l l' : List UInt8} (h : EInv w0 g nb p A c l w) (hB : Bld w' nb l') (hb : Below nb w w') : EInv w0 g nb p A c l' w' := by
  obtain ⟨h1, h2, h3, _, h5, h6⟩ := h
  exact ⟨h1.trans (hb.mono (by omega)), h2.below hb h5, h3.below hb, hB, h5, h6⟩
theorem EInv.bld {w0 w : World} {g nb : Nat} {p : Pg} {A : Option Addr} {c : Nat} {l : List UInt8} (h : EInv w0 g nb p A c l w) : Bld w nb l := h.2.2.2.1
theorem EInv.cells {w0 w : World} {g nb : Nat} {p : Pg} {A : Option Addr} {c : Nat} {l : List UInt8} (h : EInv w0 g nb p A c l w) :
    w.cell? ⟨g, 1, none⟩ = some (.int .i64 p.kind) ∧ w.cell? ⟨g, 2, none⟩ = some (.int .i64 p.level) ∧
    w.cell? ⟨g, 3, none⟩ = some (.int .i64 p.right) ∧ w.cell? ⟨g, 4, none⟩ = some (.string (bs p.high)) ∧ w.cell? ⟨g, 5, none⟩ = some (.slice A p.ents.length c) := h.2.1.2

/-- .. and the entry of the round, in block gb. -/
def E2 (w0 : World) (g nb : Nat) (p : Pg) (A : Option Addr) (c : Nat) (l : List UInt8) (gb : Nat) (e : Ent) (w : World) : Prop :=
  EInv w0 g nb p A c l w ∧ w.heap[gb]? = some (.cells #[.string (bs e.key), .string (bs e.value), .bool e.marked] 61 (0, 0)) ∧ gb ≠ nb
theorem heap_lt {w : World} {g : Nat} {o : Obj} (h : w.heap[g]? = some o) : g < w.heap.size := by
  rcases Nat.lt_or_ge g w.heap.size with h' | h'
  · exact h'
  · simp [Array.getElem?_eq_none h'] at h
theorem E2.below {w0 w w' : World} {g nb : Nat} {p : Pg} {A : Option Addr} {c : Nat} {l : List UInt8} {gb : Nat} {e : Ent} (h : E2 w0 g nb p A c l gb e w) (hb : Below w.heap.size w w') : E2 w0 g nb p A c l gb e w' := by
  obtain ⟨h1, h2, h3⟩ := h
  exact ⟨h1.below hb, (hb.block gb (heap_lt h2)).trans h2, h3⟩
theorem E2.drew {w0 w : World} {g nb : Nat} {p : Pg} {A : Option Addr} {c : Nat} {l : List UInt8} {gb : Nat} {e : Ent} (h : E2 w0 g nb p A c l gb e w) : E2 w0 g nb p A c l gb e w.drew :=
  ⟨h.1.drew, h.2⟩
theorem E2.made {w0 w : World} {g nb : Nat} {p : Pg} {A : Option Addr} {c : Nat} {l : List UInt8} (e : Ent) (h : EInv w0 g nb p A c l w) :
    E2 w0 g nb p A c l w.heap.size e (w.alloc (.cells #[.string (bs e.key), .string (bs e.value), .bool e.marked] 61)) := by
  refine ⟨h.alloc _, ?_, ?_⟩
  · show (w.heap.push _)[w.heap.size]? = _
    simp
  · have := h.2.2.2.1.lt
    omega
theorem E2.cells {w0 w : World} {g nb : Nat} {p : Pg} {A : Option Addr} {c : Nat} {l : List UInt8} {gb : Nat} {e : Ent} (h : E2 w0 g nb p A c l gb e w) :
    w.cell? ⟨gb, 0, none⟩ = some (.string (bs e.key)) ∧ w.cell? ⟨gb, 1, none⟩ = some (.string (bs e.value)) := by
  have := h.2.1
  constructor <;> simp [World.cell?, this]
theorem E2.all {w0 w : World} {g nb : Nat} {p : Pg} {A : Option Addr} {c : Nat} {l : List UInt8} {gb : Nat} {e : Ent} (h : E2 w0 g nb p A c l gb e w) :
    w.cell? ⟨gb, 0, none⟩ = some (.string (bs e.key)) ∧ w.cell? ⟨gb, 1, none⟩ = some (.string (bs e.value)) ∧ w.cell? ⟨gb, 2, none⟩ = some (.bool e.marked) ∧ gb < w.heap.size := by
  have := h.2.1
  refine ⟨?_, ?_, ?_, heap_lt this⟩ <;> simp [World.cell?, this]
theorem E2.wrote {w0 w w' : World} {g nb : Nat} {p : Pg} {A : Option Addr} {c : Nat} {l l' : List UInt8} {gb : Nat} {e : Ent} (h : E2 w0 g nb p A c l gb e w) (hB : Bld w' nb l') (hb : Below nb w w') (hk : Lib.OthersKept 5 (some nb) w w') : E2 w0 g nb p A c l' gb e w' := by
  obtain ⟨h1, h2, h3⟩ := h
  exact ⟨h1.wrote hB hb, hk gb _ h2 (by simpa using h3) (by intro c fz; simp), h3⟩
theorem E2.inv {w0 w : World} {g nb : Nat} {p : Pg} {A : Option Addr} {c : Nat} {l : List UInt8} {gb : Nat} {e : Ent} (h : E2 w0 g nb p A c l gb e w) : EInv w0 g nb p A c l w := h.1
theorem bad_bounds {l : List Ent} (h : l.any badE = false) (k : Nat) (hk : k < l.length) : l[k].key.length ≤ 64 ∧ l[k].value.length ≤ 100 := by
  have := List.any_eq_false.1 h l[k] (List.getElem_mem hk)
  simp only [badE, Bool.or_eq_true, decide_eq_true_eq] at this
  omega

theorem EInv.reads {w0 w : World} {g nb : Nat} {p : Pg} {A : Option Addr} {c : Nat} {l : List UInt8} (h : EInv w0 g nb p A c l w) : ReadsE w nb A p.ents := h.2.2.1
theorem EInv.mk {w0 w : World} {g nb : Nat} {p : Pg} {A : Option Addr} {c : Nat} {l : List UInt8} (h1 : Below w0.heap.size w0 w) (h2 : PBox w g p A c) (h3 : ReadsE w nb A p.ents) (h4 : Bld w nb l) (h5 : g < nb) (h6 : w0.heap.size ≤ g) : EInv w0 g nb p A c l w := ⟨h1, h2, h3, h4, h5, h6⟩
theorem EInv.lsn {w0 w : World} {g nb : Nat} {p : Pg} {A : Option Addr} {c : Nat} {l : List UInt8} (h : EInv w0 g nb p A c l w) : w.cell? ⟨g, 0, none⟩ = some (.int .i64 p.lsn) := h.2.1.1
theorem EInv.old {w0 w : World} {g nb : Nat} {p : Pg} {A : Option Addr} {c : Nat} {l : List UInt8} (h : EInv w0 g nb p A c l w) : Below w0.heap.size w0 w := h.1
theorem EInv.lt {w0 w : World} {g nb : Nat} {p : Pg} {A : Option Addr} {c : Nat} {l : List UInt8} (h : EInv w0 g nb p A c l w) : g < nb := h.2.2.2.2.1
theorem EInv.le {w0 w : World} {g nb : Nat} {p : Pg} {A : Option Addr} {c : Nat} {l : List UInt8} (h : EInv w0 g nb p A c l w) : w0.heap.size ≤ nb := by have := h.2.2.2.2; omega
attribute [irreducible] EInv E2

theorem repeat_zero (n : Nat) : (⟨(Lib.repeatL (⟨#[0]⟩ : ByteArray).data.toList n).toArray⟩ : ByteArray) = bs (List.replicate n 0) := by
  have : Lib.repeatL (⟨#[0]⟩ : ByteArray).data.toList n = List.replicate n 0 := by
    have h := Lib.repeatL_replicate 0 1 n
    rw [Nat.mul_one] at h
    exact h
  rw [this]; rfl

theorem right_bounds {p : Pg} (h : rightB p = true) : 0 ≤ p.lsn ∧ p.lsn ≤ 281474976710655 ∧ 1 ≤ p.kind ∧ p.kind ≤ 255 ∧ 0 ≤ p.level ∧ p.level ≤ 255 ∧ 0 ≤ p.right ∧ p.right ≤ 65535 ∧ p.high.length ≤ 64 ∧ p.ents.any badE = false := by
  simp only [rightB, withinB, Bool.and_eq_true, decide_eq_true_eq, Bool.not_eq_true'] at h
  obtain ⟨⟨h1, h2⟩, ⟨h3, h4⟩, ⟨h5, h6⟩, ⟨h7, h8⟩, h9, h10⟩ := h
  exact ⟨h1, h2, h3, h4, h5, h6, h7, h8, by omega, h10⟩

set_option maxHeartbeats 1700000 in
theorem encode_arg (p : Pg) (A : Option Addr) (c : Nat) (hs : Small p) (hR : rightB p = false) (w : World) (hr : ReadsE w w.heap.size A p.ents) :
    Calls Tryz.prog 24 #[.agg #[.int .i64 p.lsn, .int .i64 p.kind, .int .i64 p.level, .int .i64 p.right, .string (bs p.high), .slice A p.ents.length c]] w
      fun e w' => e = .returned (.tuple #[.string (bs []), .int .i64 1]) ∧ Below w.heap.size w w' := by
  have HB : Below w.heap.size w (w.alloc (.cells #[.int .i64 p.lsn, .int .i64 p.kind, .int .i64 p.level, .int .i64 p.right, .string (bs p.high), .slice A p.ents.length c] 64)) := (Below.refl _ _).alloc (Nat.le_refl _) _
  have hc := right_any p A c hs _ ((hr.below HB).more HB.size)
  rw [hR] at hc
  clear hr hR
  go_enter Tryz.func24, Tryz.ntmps24
  go_wp2_with fail
  refine hc.mono ?_
  clear hc
  rintro e w' ⟨rfl, hb⟩
  go_wp2
  go_ret2
  exact ⟨rfl, HB.trans (hb.mono HB.size)⟩

set_option maxHeartbeats 1700000 in
theorem encode_full (p : Pg) (A : Option Addr) (c : Nat) (hs : Small p) (hR : rightB p = true) (hF : freeOf p < 0) (w : World) (hr : ReadsE w w.heap.size A p.ents) :
    Calls Tryz.prog 24 #[.agg #[.int .i64 p.lsn, .int .i64 p.kind, .int .i64 p.level, .int .i64 p.right, .string (bs p.high), .slice A p.ents.length c]] w
      fun e w' => e = .returned (.tuple #[.string (bs []), .int .i64 8]) ∧ Below w.heap.size w w' := by
  have HB : Below w.heap.size w (w.alloc (.cells (pgCells p A c) 64)) := (Below.refl _ _).alloc (Nat.le_refl _) _
  have hr1 := (hr.below HB).more HB.size
  have hc := right_any p A c hs _ hr1
  rw [hR] at hc
  have hp1 := PBox.made w p A c 64
  have HR1 := Lib.hid hr1
  have HP1 := Lib.hid hp1
  have hcf := free_any p A c hs
  have HCF := Lib.hid hcf
  clear hr hR hr1 hcf hp1
  go_enter Tryz.func24, Tryz.ntmps24
  go_wp2_with fail
  refine hc.mono ?_
  clear hc
  rintro e w1 ⟨rfl, hb⟩
  obtain ⟨c0, c1, c2, c3, c4, c5⟩ := HP1.out.below hb (by simp)
  go_wp2_with fail
  refine (HCF.out _ ((HR1.out.below hb).more hb.size)).mono ?_
  rintro e w2 ⟨rfl, hb2⟩
  clear c0 c1 c2 c3 c4 c5
  go_wp2
  go_ret2
  exact ⟨rfl, HB.trans ((hb.mono HB.size).trans (hb2.mono (Nat.le_trans HB.size hb.size)))⟩

set_option maxHeartbeats 3200000 in
set_option maxRecDepth 100000 in
theorem encode_ok (p : Pg) (A : Option Addr) (c : Nat) (hs : Small p) (hR : rightB p = true) (hF : 0 ≤ freeOf p) (w : World) (hr : ReadsE w w.heap.size A p.ents) (ht : Turns w) :
    Calls Tryz.prog 24 #[.agg #[.int .i64 p.lsn, .int .i64 p.kind, .int .i64 p.level, .int .i64 p.right, .string (bs p.high), .slice A p.ents.length c]] w
      fun e w' => e = .returned (.tuple #[.string (bs (encB p)), .int .i64 0]) ∧ Below w.heap.size w w' := by
  have HB : Below w.heap.size w (w.alloc (.cells (pgCells p A c) 64)) := (Below.refl _ _).alloc (Nat.le_refl _) _
  have hr1 := (hr.below HB).more HB.size
  have hc := right_any p A c hs _ hr1
  rw [hR] at hc
  have hp1 := PBox.made w p A c 64
  have HR1 := Lib.hid hr1
  have HP1 := Lib.hid hp1
  have hcf := free_any p A c hs
  have HCF := Lib.hid hcf
  have HRB := Lib.hid hR
  have HT := Lib.hid ht
  clear hr hR hr1 hcf hp1 ht
  go_enter Tryz.func24, Tryz.ntmps24
  go_wp2_with fail
  refine hc.mono ?_
  clear hc
  rintro e w1 ⟨rfl, hb⟩
  obtain ⟨c0, c1, c2, c3, c4, c5⟩ := HP1.out.below hb (by simp)
  go_wp2_with fail
  refine (HCF.out _ ((HR1.out.below hb).more hb.size)).mono ?_
  rintro e w2 ⟨rfl, hb2⟩
  clear c0 c1 c2 c3 c4 c5
  have hP2 := ((HP1.out.below hb (by simp)).below hb2 (by have := hb.size; simp at this; omega))
  have hR2 := ((HR1.out.below hb).more hb.size |>.below hb2 |>.more hb2.size)
  have hB2 := (HB.trans ((hb.mono HB.size).trans (hb2.mono (Nat.le_trans HB.size hb.size))))
  have hsz : w.heap.size + 1 ≤ w2.heap.size := by have h1 := hb.size; have h2 := hb2.size; simp at h1; omega
  have hAl : Below w2.heap.size w2 (w2.alloc (.cells #[.pointer none, .slice none 0 0] 105)) := (Below.refl _ _).alloc (Nat.le_refl _) _
  have hE : EInv w w.heap.size w2.heap.size p A c [] (w2.alloc (.cells #[.pointer none, .slice none 0 0] 105)) :=
    EInv.mk (hB2.trans (hAl.mono (by omega))) (hP2.below hAl (by omega)) (hR2.below hAl) (Bld.new w2) (by omega) (Nat.le_refl _)
  clear hP2 hR2 hB2 hAl hb hb2 HP1 HR1 HB HCF
  go_wp2_with fail
  generalize w2.alloc (.cells #[.pointer none, .slice none 0 0] 105) = w3 at *
  generalize w2.heap.size = nb at *
  have hEd := hE.drew
  obtain ⟨b0, b1, b2, b3, b4, b5, b6, b7, b8, _⟩ := right_bounds HRB.out
  have b9 : p.ents.length ≤ 200 := by
    have h1 : freeOf p = 489 - (p.high.length : Int) - (sizes p.ents : Int) := rfl
    have h2 := sizes_ge p.ents
    omega
  have b10 : ¬ 9223372036854775807 < 7 + p.high.length := by omega
  go_region_held3 (fun w' => w'.cell? ⟨w.heap.size, 1, none⟩ = some (.int .i64 p.kind) ∧ w'.cell? ⟨w.heap.size, 2, none⟩ = some (.int .i64 p.level) ∧
      w'.cell? ⟨w.heap.size, 3, none⟩ = some (.int .i64 p.right) ∧ w'.cell? ⟨w.heap.size, 4, none⟩ = some (.string (bs p.high)) ∧ w'.cell? ⟨w.heap.size, 5, none⟩ = some (.slice A p.ents.length c))
    (first | exact hE.cells | exact hEd.cells | exact EInv.cells (by assumption))
    (first
      | (go_at_call_of 49 (Value.int IntKind.i64 p.kind); refine (put1 _ (by omega) (by omega) _).mono ?_; rintro e w' ⟨rfl, hb'⟩; have hE' := EInv.below (by assumption) hb')
      | (go_at_call_of 49 (Value.int IntKind.i64 p.level); refine (put1 _ (by omega) (by omega) _).mono ?_; rintro e w' ⟨rfl, hb'⟩; have hE' := EInv.below (by assumption) hb')
      | (go_at_call_of 49 (Value.int IntKind.i64 p.right); refine (put2 _ (by omega) (by omega) _).mono ?_; rintro e w' ⟨rfl, hb'⟩; have hE' := EInv.below (by assumption) hb')
      | (go_at_call_of 49 (Value.int IntKind.i64 p.high.length); refine (put1 _ (by omega) (by omega) _).mono ?_; rintro e w' ⟨rfl, hb'⟩; have hE' := EInv.below (by assumption) hb')
      | (go_at_call_of 49 (Value.int IntKind.i64 p.ents.length); refine (put2 _ (by omega) (by omega) _).mono ?_; rintro e w' ⟨rfl, hb'⟩; have hE' := EInv.below (by assumption) hb')
      | (go_at_call 48; refine (Bld.write (EInv.bld (w0 := w) (g := w.heap.size) (p := p) (A := A) (c := c) (l := []) (by assumption)) _ ?_).mono ?_; (simp [putB_length]; omega); rintro e w' ⟨rfl, hB', hb', hk'⟩; have hE' := EInv.wrote (by assumption) hB' hb'))
  have hE2 : EInv w w.heap.size nb p A c (headB p ++ entsB (p.ents.take 0)) w' := by
    have e : headB p ++ entsB (p.ents.take 0) = [] ++ headB p := by simp [entsB]
    rw [e]; exact hE'
  obtain ⟨_, _, _, _, d5⟩ := hE2.cells
  have HE2 := Lib.hid hE2
  clear hE' hB' hE hEd hE2
  go_wp2_with fail
  clear d5
  go_loopw [44] (fun i wr => ∃ k : Nat, k ≤ p.ents.length ∧ i = .int .i64 k ∧ EInv w w.heap.size nb p A c (headB p ++ entsB (p.ents.take k)) wr) (fun i _ => p.ents.length - (intOf i).toNat)
  case atStart => exact ⟨0, Nat.zero_le _, rfl, HE2.out⟩
  case round =>
    clear HE2
    obtain ⟨k, hk, rfl, hE⟩ := hrel
    by_cases hlt : k < p.ents.length
    · obtain ⟨b, o, rfl, hb, c0, c1, c2⟩ := hE.reads.at_ k hlt
      obtain ⟨hbk, hbv⟩ := bad_bounds ‹_› k hlt
      have htk := List.take_succ_eq_append_getElem hlt
      obtain ⟨e, he⟩ : ∃ e, e = p.ents[k] := ⟨_, rfl⟩
      rw [← he] at c0 c1 c2 hbk hbv htk
      have HTK := Lib.hid htk
      obtain ⟨key, value, marked⟩ := e
      have hM := (E2.made ⟨key, value, marked⟩ hE)
      obtain ⟨m0, m1, m2, m3⟩ := hM.all
      have hl := entsB_length (p.ents.take k)
      have hsz := sizes_take_le hs.2 k hk
      have hhl := headB_length p
      have HL : Hid ((headB p ++ entsB (p.ents.take k)).length ≤ 70000 * 2000003 + 100) := by
        show _ ≤ _
        rw [List.length_append, hl, hhl]; omega
      clear hl hsz hhl htk he hE
      cases marked
      all_goals
        go_wp2_with fail
        generalize wr.alloc (.cells #[.string (bs key), .string (bs value), _] 61) = we at *
        generalize wr.heap.size = gb at *
        clear m2 c2
        have hMd := hM.drew
        have k1 : ¬ 9223372036854775807 < 3 + key.length := by omega
        have k2 : ¬ 9223372036854775807 < 1 + (1 + (1 + key.length)) + value.length := by omega
        go_region_held3 (fun w' => w'.cell? ⟨gb, 0, none⟩ = some (.string (bs key)) ∧ w'.cell? ⟨gb, 1, none⟩ = some (.string (bs value)))
          (first | exact hM.cells | exact hMd.cells | exact E2.cells (by assumption))
          (first
            | (go_at_call 49; refine (put1 _ (by omega) (by omega) _).mono ?_; rintro e w' ⟨rfl, hb'⟩; have hE' := E2.below (by assumption) hb')
            | (go_at_call 48; refine (Bld.write (EInv.bld (w0 := w) (g := w.heap.size) (p := p) (A := some ⟨b, o, none⟩) (c := c) (l := headB p ++ entsB (p.ents.take k)) (E2.inv (by assumption))) _ ?_).mono ?_; (have hh := HL.out; simp only [List.length_append, putB_length] at hh ⊢; omega); rintro e w' ⟨rfl, hB', hb', hk'⟩; have hE' := E2.wrote (by assumption) hB' hb' hk'))
        have hE2 := hE'.inv
        have HF : Hid (EInv w w.heap.size nb p (some ⟨b, o, none⟩) c (headB p ++ entsB (p.ents.take (k + 1))) w') := by
          show EInv _ _ _ _ _ _ _ _
          rw [HTK.out, entsB_snoc, ← List.append_assoc]; exact hE2
        clear hE2
        go_wp2
        go_roundw
        case rel => exact ⟨k + 1, by omega, by go_num, HF.out⟩
        case measure => simp [intOf]; omega
    · have hkn : k = p.ents.length := by omega
      have hE2 := hE
      rw [hkn, List.take_length] at hE2
      have HE2 := Lib.hid hE2
      have hlen := bodyB_length p hF
      have hl := entsB_length p.ents
      have hhl := headB_length p
      have hfr : freeOf p = 489 - (p.high.length : Int) - (sizes p.ents : Int) := rfl
      obtain ⟨L, hL⟩ : ∃ L, L = (headB p ++ entsB p.ents).length := ⟨_, rfl⟩
      have hLe : L ≤ 496 := by rw [hL, List.length_append, hl, hhl]; omega
      have cLen := Bld.len hE2.bld
      rw [← hL] at cLen
      have HL := Lib.hid hL
      clear hkn hE hE2 hL hl hhl hfr hlen
      go_wp2_with (go_at_call 50; refine cLen.mono ?_; clear cLen; rintro e wx ⟨rfl, rfl⟩)
      rw [show ((496 : Int) - (L : Int)) = ((496 - L : Nat) : Int) from by omega]
      refine (Tryz.strings_Repeat ⟨#[0]⟩ (496 - L) _ (by omega) (by show 1 * (496 - L) ≤ _; omega)).mono ?_
      rintro e wy ⟨rfl, hby⟩
      rw [repeat_zero]
      have hE3 := HE2.out.below hby
      have cW := hE3.bld.write (List.replicate (496 - L) 0) (by rw [← HL.out, List.length_replicate]; omega)
      have HE3 := Lib.hid hE3
      clear hE3
      go_wp2_with fail
      refine cW.mono ?_
      clear cW
      rintro e wz ⟨rfl, hBz, hbz, hkz⟩
      have hE4 : EInv w w.heap.size nb p A c (bodyB p) wz := by
        have e : bodyB p = headB p ++ entsB p.ents ++ List.replicate (496 - L) 0 := by rw [HL.out]; rfl
        rw [e]; exact HE3.out.wrote hBz hbz
      have hE4d := hE4.drew
      have cS := hE4d.bld.str
      clear hBz hbz hkz hby HE3 HE2
      have hlen := bodyB_length p hF
      have hle := hE4d.le
      have hglt := hE4d.lt
      have l1 := hE4.lsn
      have l2 := hE4d.lsn
      have HB4 := Lib.hid hlen
      have HO := Lib.hid hE4d.old
      clear hlen
      go_wp2_with fail
      go_region_held3 (fun w' => w'.cell? ⟨w.heap.size, 0, none⟩ = some (.int .i64 p.lsn))
        (first | exact l1 | exact l2 | exact (hbS.cell hglt).trans l2 | exact (hbQ.cell (Nat.lt_of_lt_of_le hglt hsS)).trans ((hbS.cell hglt).trans l2))
        (first
          | (go_at_call 52; refine cS.mono ?_; rintro e ws ⟨rfl, hbS⟩; have hsS : nb ≤ ws.heap.size := Nat.le_trans (Nat.le_of_lt hE4d.bld.lt) hbS.size)
          | (go_at_call 51; refine (build_ok _ _ b0 b1 HB4.out _ (HT.out.below (HO.out.trans (hbS.mono hle)))).mono ?_; rintro e wq ⟨rfl, hbQ⟩))
      all_goals
        go_wp2
        go_ret2
        exact ⟨rfl, (HO.out.trans (hbS.mono hle)).trans (hbQ.mono (Nat.le_trans hle hsS))⟩

/-- What Encode answers. -/
def encR (p : Pg) : List UInt8 × Int := if rightB p then (if freeOf p < 0 then ([], 8) else (encB p, 0)) else ([], 1)
theorem encode_any (p : Pg) (A : Option Addr) (c : Nat) (hs : Small p) (w : World) (hr : ReadsE w w.heap.size A p.ents) (ht : Turns w) :
    Calls Tryz.prog 24 #[.agg #[.int .i64 p.lsn, .int .i64 p.kind, .int .i64 p.level, .int .i64 p.right, .string (bs p.high), .slice A p.ents.length c]] w
      fun e w' => e = .returned (.tuple #[.string (bs (encR p).1), .int .i64 (encR p).2]) ∧ Below w.heap.size w w' := by
  unfold encR
  cases hR : rightB p with
  | false => exact encode_arg p A c hs hR w hr
  | true =>
    by_cases hF : freeOf p < 0
    · rw [if_pos rfl, if_pos hF]; exact encode_full p A c hs hR hF w hr
    · rw [if_pos rfl, if_neg hF]; exact encode_ok p A c hs hR (by omega) w hr ht
end Go.Proofs.YtjlcbabnkhdgpaaGreatDoor
