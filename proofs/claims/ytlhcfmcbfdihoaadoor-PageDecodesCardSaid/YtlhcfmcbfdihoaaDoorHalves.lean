/-
  Walks: the law 'PageHalves'.
-/
import Derived.Test.YtlhcfmcbfdihoaaDoorLawB
import Derived.Test.YtlhcfmcbfdihoaaDoorSpeaks
import Derived.Test.YtlhcfmcbfdihoaaDoorMadeB
namespace Go.Proofs.YtlhcfmcbfdihoaaDoor
set_option linter.unusedSimpArgs false
set_option linter.unusedVariables false
open Go.RowKit

theorem encR_zero {p : Pg} (h : (encR p).2 = 0) : rightB p = true ∧ 0 ≤ freeOf p ∧ (encR p).1 = encB p := by
  unfold encR at h ⊢
  split at h
  · rename_i hr
    rw [if_pos hr]
    split at h
    · cases h
    · rename_i hf
      rw [if_neg hf]
      exact ⟨hr, by omega, rfl⟩
  · cases h
/-- What a law keeps from its start on: the sum's table, and all blocks that there were. -/
def Held (n : Nat) (w0 w : World) : Prop := Turns w ∧ n ≤ w.heap.size ∧ Below n w0 w
theorem Held.up {n : Nat} {w0 w w' : World} (h : Held n w0 w) (hb : Below w.heap.size w w') : Held n w0 w' := ⟨h.1.below hb, Nat.le_trans h.2.1 hb.size, h.2.2.trans (hb.mono h.2.1)⟩
theorem Held.start {w : World} (h : Turns w) : Held w.heap.size w w := ⟨h, Nat.le_refl _, Below.refl _ _⟩
theorem Held.turns {n : Nat} {w0 w : World} (h : Held n w0 w) : Turns w := h.1
theorem Held.since {n : Nat} {w0 w : World} (h : Held n w0 w) : Below n w0 w := h.2.2
attribute [irreducible] Held

/-- What the laws of two pages keep: the sum's table, the two arguments' boxes and entries. -/
def LInv (x y : Pg) (A B : Option Addr) (ca cb : Nat) (xb yb : Nat) (n : Nat) (w0 w : World) : Prop :=
  Held n w0 w ∧ ReadsE w w.heap.size A x.ents ∧ ReadsE w w.heap.size B y.ents ∧ Blk w xb 25 (pgCells x A ca) ∧ Blk w yb 25 (pgCells y B cb)
section
variable {x y : Pg} {A B : Option Addr} {ca cb xb yb : Nat} {n : Nat} {w0 w w' : World}
theorem LInv.up (h : LInv x y A B ca cb xb yb n w0 w) (hb : Below w.heap.size w w') : LInv x y A B ca cb xb yb n w0 w' :=
  ⟨h.1.up hb, (h.2.1.below hb).more hb.size, (h.2.2.1.below hb).more hb.size, h.2.2.2.1.up hb, h.2.2.2.2.up hb⟩
theorem LInv.start (ht : Turns w) (hx : ReadsE w w.heap.size A x.ents) (hy : ReadsE w w.heap.size B y.ents) :
    LInv x y A B ca cb w.heap.size (w.heap.size + 1) w.heap.size w ((w.alloc (.cells (pgCells x A ca) 25)).alloc (.cells (pgCells y B cb) 25)) := by
  have b1 := Blk.made w (pgCells x A ca) 25
  have e1 : Below w.heap.size w (w.alloc (.cells (pgCells x A ca) 25)) := (Below.refl _ _).alloc (Nat.le_refl _) _
  have z1 : (w.alloc (.cells (pgCells x A ca) 25)).heap.size = w.heap.size + 1 := by simp
  generalize w.alloc (.cells (pgCells x A ca) 25) = w1 at *
  have b2 := Blk.made w1 (pgCells y B cb) 25
  rw [z1] at b2
  have e2 : Below w.heap.size w (w1.alloc (.cells (pgCells y B cb) 25)) := e1.alloc (by omega) _
  exact ⟨(Held.start ht).up e2, (hx.below e2).more e2.size, (hy.below e2).more e2.size, b1.alloc _, b2⟩
theorem LInv.turns (h : LInv x y A B ca cb xb yb n w0 w) : Turns w := h.1.turns
theorem LInv.held (h : LInv x y A B ca cb xb yb n w0 w) : Held n w0 w := h.1
theorem LInv.readsx (h : LInv x y A B ca cb xb yb n w0 w) : ReadsE w w.heap.size A x.ents := h.2.1
theorem LInv.readsy (h : LInv x y A B ca cb xb yb n w0 w) : ReadsE w w.heap.size B y.ents := h.2.2.1
theorem LInv.boxx (h : LInv x y A B ca cb xb yb n w0 w) : Blk w xb 25 (pgCells x A ca) := h.2.2.2.1
theorem LInv.boxy (h : LInv x y A B ca cb xb yb n w0 w) : Blk w yb 25 (pgCells y B cb) := h.2.2.2.2
/-- The cells of a page's block. -/
theorem Blk.page {g : Nat} {T : TypeId} {p : Pg} {A : Option Addr} {c : Nat} (h : Blk w g T (pgCells p A c)) : w.cell? ⟨g, 0, none⟩ = some (.int .i64 p.lsn) ∧ w.cell? ⟨g, 1, none⟩ = some (.int .i64 p.kind) ∧ w.cell? ⟨g, 2, none⟩ = some (.int .i64 p.level) ∧
    w.cell? ⟨g, 3, none⟩ = some (.int .i64 p.right) ∧ w.cell? ⟨g, 4, none⟩ = some (.string (bs p.high)) ∧ w.cell? ⟨g, 5, none⟩ = some (.slice A p.ents.length c) :=
  ⟨h.cell 0, h.cell 1, h.cell 2, h.cell 3, h.cell 4, h.cell 5⟩
/-- A variable that holds a page. -/
def PVar (p : Pg) (A : Option Addr) (c g : Nat) (T : TypeId) (w : World) : Prop := Blk w g T (pgCells p A c) ∧ ReadsE w w.heap.size A p.ents
theorem PVar.up {p : Pg} {A : Option Addr} {c g : Nat} {T : TypeId} (h : PVar p A c g T w) (hb : Below w.heap.size w w') : PVar p A c g T w' := ⟨h.1.up hb, (h.2.below hb).more hb.size⟩
/-- 'made's two results are laid into two variables. -/
theorem PVar.made {p : Pg} {A1 A2 : Option Addr} {c1 c2 : Nat} (h : ReadsE w w.heap.size A1 p.ents) :
    Below w.heap.size w ((w.alloc (.cells (pgCells p A1 c1) 29)).alloc (.cells (pgCells p A2 c2) 32)) ∧
    PVar p A1 c1 w.heap.size 29 ((w.alloc (.cells (pgCells p A1 c1) 29)).alloc (.cells (pgCells p A2 c2) 32)) := by
  have b1 := Blk.made w (pgCells p A1 c1) 29
  have e1 : Below w.heap.size w (w.alloc (.cells (pgCells p A1 c1) 29)) := (Below.refl _ _).alloc (Nat.le_refl _) _
  have e2 := e1.alloc e1.size (.cells (pgCells p A2 c2) 32)
  exact ⟨e2, b1.alloc _, (h.below e2).more e2.size⟩
theorem PVar.cells {p : Pg} {A : Option Addr} {c g : Nat} {T : TypeId} (h : PVar p A c g T w) : w.cell? ⟨g, 0, none⟩ = some (.int .i64 p.lsn) ∧ w.cell? ⟨g, 1, none⟩ = some (.int .i64 p.kind) ∧ w.cell? ⟨g, 2, none⟩ = some (.int .i64 p.level) ∧
    w.cell? ⟨g, 3, none⟩ = some (.int .i64 p.right) ∧ w.cell? ⟨g, 4, none⟩ = some (.string (bs p.high)) ∧ w.cell? ⟨g, 5, none⟩ = some (.slice A p.ents.length c) := h.1.page
theorem PVar.reads {p : Pg} {A : Option Addr} {c g : Nat} {T : TypeId} (h : PVar p A c g T w) : ReadsE w w.heap.size A p.ents := h.2
end
attribute [irreducible] LInv PVar
/-- What the law's last row keeps. -/
def NInv (a : Pg) (A1 : Option Addr) (c g : Nat) (n : Nat) (w0 w : World) : Prop := Held n w0 w ∧ PVar a A1 c g 29 w
theorem NInv.up {a : Pg} {A1 : Option Addr} {c g n : Nat} {w0 w w' : World} (h : NInv a A1 c g n w0 w) (hb : Below w.heap.size w w') : NInv a A1 c g n w0 w' := ⟨h.1.up hb, h.2.up hb⟩
theorem NInv.turns {a : Pg} {A1 : Option Addr} {c g n : Nat} {w0 w : World} (h : NInv a A1 c g n w0 w) : Turns w := h.1.turns
theorem NInv.since {a : Pg} {A1 : Option Addr} {c g n : Nat} {w0 w : World} (h : NInv a A1 c g n w0 w) : Below n w0 w := h.1.since
theorem NInv.cell {a : Pg} {A1 : Option Addr} {c g n : Nat} {w0 w : World} (h : NInv a A1 c g n w0 w) : w.cell? ⟨g, 0, none⟩ = some (.int .i64 a.lsn) := h.2.cells.1
attribute [irreducible] NInv

set_option maxHeartbeats 6400000 in
set_option maxRecDepth 100000 in
theorem halves_any (x y : Pg) (A B : Option Addr) (ca cb : Nat) (hx : Handed x) (hy : Handed y) (w : World) (ht : Turns w) (hrx : ReadsE w w.heap.size A x.ents) (hry : ReadsE w w.heap.size B y.ents) :
    Calls Tryd.prog 6 #[.agg #[.int .i64 x.lsn, .int .i64 x.kind, .int .i64 x.level, .int .i64 x.right, .string (bs x.high), .slice A x.ents.length ca],
      .agg #[.int .i64 y.lsn, .int .i64 y.kind, .int .i64 y.level, .int .i64 y.right, .string (bs y.high), .slice B y.ents.length cb]] w fun e w' => e = .returned (.bool true) ∧ Below w.heap.size w w' := by
  have HX := Lib.hid hx; have HY := Lib.hid hy
  clear hx hy
  go_enter Tryd.func6, Tryd.ntmps6
  go_wp2_with fail
  have hI := LInv.start (ca := ca) (cb := cb) ht hrx hry
  unfold pgCells at hI
  clear ht hrx hry
  generalize (w.alloc (.cells #[.int .i64 x.lsn, .int .i64 x.kind, .int .i64 x.level, .int .i64 x.right, .string (bs x.high), .slice A x.ents.length ca] 25)).alloc (.cells #[.int .i64 y.lsn, .int .i64 y.kind, .int .i64 y.level, .int .i64 y.right, .string (bs y.high), .slice B y.ents.length cb] 25) = w1 at *
  generalize w.heap.size + 1 = yb at *
  generalize hxb : w.heap.size = xb at *
  refine (speaks_any w1 hI.turns).mono ?_
  rintro e w2 ⟨rfl, hb⟩
  have hI := hI.up hb
  clear hb
  obtain ⟨c0, c1, c2, c3, c4, c5⟩ := hI.boxx.page
  go_wp2_with fail
  refine (made_any x A ca HX.out.1 HX.out.2 w2 hI.readsx).mono ?_
  rintro e w3 ⟨A1, c1', A2, c2', rfl, hr1, hc1, hr2, hc2, hb⟩
  have hI := hI.up hb
  clear hb c0 c1 c2 c3 c4 c5
  obtain ⟨a, ha⟩ : ∃ a, a = madePg x := ⟨_, rfl⟩
  rw [← ha] at hr1 hc1 hr2 hc2 ⊢
  have hsa : Small a := by rw [ha]; exact madePg_small x
  have HSA := Lib.hid hsa
  clear ha hsa hc1 hc2 hr2
  obtain ⟨hb, hVa⟩ := PVar.made (A2 := A2) (c1 := c1') (c2 := c2') hr1
  have hI := hI.up hb
  obtain ⟨c0, c1, c2, c3, c4, c5⟩ := hI.boxy.page
  unfold pgCells at hb hVa hI c0 c1 c2 c3 c4 c5 ⊢
  clear hb hr1
  have HI := Lib.hid hI; have HVA := Lib.hid hVa
  clear hI hVa
  go_wp2_with fail
  generalize (w3.alloc (.cells #[.int .i64 a.lsn, .int .i64 a.kind, .int .i64 a.level, .int .i64 a.right, .string (bs a.high), .slice A1 a.ents.length c1'] 29)).alloc (.cells #[.int .i64 a.lsn, .int .i64 a.kind, .int .i64 a.level, .int .i64 a.right, .string (bs a.high), .slice A2 a.ents.length c2'] 32) = w4 at *
  generalize w3.heap.size = pa at *
  refine (made_any y B cb HY.out.1 HY.out.2 w4 HI.out.readsy).mono ?_
  rintro e w5 ⟨B1, d1, B2, d2, rfl, hr1, _, hr2, _, hb⟩
  have hI := HI.out.up hb
  have hVa := HVA.out.up hb
  obtain ⟨b, hb'⟩ : ∃ b, b = madePg y := ⟨_, rfl⟩
  rw [← hb'] at hr1 hr2 ⊢
  have hsb : Small b := by rw [hb']; exact madePg_small y
  have HSB := Lib.hid hsb
  clear HI HVA hb c0 c1 c2 c3 c4 c5 hb' hsb hr2
  obtain ⟨hb, hVb⟩ := PVar.made (A2 := B2) (c1 := d1) (c2 := d2) hr1
  have hI := hI.up hb
  have hVa := hVa.up hb
  obtain ⟨c0, c1, c2, c3, c4, c5⟩ := hVa.cells
  have hW := hI.held
  unfold pgCells at hb hVb hVa hI hW c0 c1 c2 c3 c4 c5 ⊢
  clear hb hr1 hI
  have HVB := Lib.hid hVb; have HVA := Lib.hid hVa; have HT := Lib.hid hW
  clear hVa hVb hW
  go_wp2_with fail
  generalize (w5.alloc (.cells #[.int .i64 b.lsn, .int .i64 b.kind, .int .i64 b.level, .int .i64 b.right, .string (bs b.high), .slice B1 b.ents.length d1] 29)).alloc (.cells #[.int .i64 b.lsn, .int .i64 b.kind, .int .i64 b.level, .int .i64 b.right, .string (bs b.high), .slice B2 b.ents.length d2] 32) = w6 at *
  generalize w5.heap.size = pb at *
  refine (encode_any a A1 c1' HSA.out w6 HVA.out.reads HT.out.turns).mono ?_
  rintro e w7 ⟨rfl, hb⟩
  have hVa := HVA.out.up hb
  have hVb := HVB.out.up hb
  have hT := HT.out.up hb
  clear HVA HVB HT hb c0 c1 c2 c3 c4 c5
  obtain ⟨c0, c1, c2, c3, c4, c5⟩ := hVb.cells
  obtain ⟨s, hs⟩ : ∃ s, s = (encR a).1 := ⟨_, rfl⟩
  obtain ⟨er, her⟩ : ∃ s, s = (encR a).2 := ⟨_, rfl⟩
  rw [← hs, ← her]
  have hA : er = 0 → rightB a = true ∧ 0 ≤ freeOf a ∧ s = encB a := fun h => by rw [hs]; exact encR_zero (by rw [← her]; exact h)
  have HA := Lib.hid hA; have HVA := Lib.hid hVa; have HVB := Lib.hid hVb; have HT := Lib.hid hT
  clear hs her hA hVa hVb hT
  go_wp2_with fail
  refine (encode_any b B1 d1 HSB.out w7 HVB.out.reads HT.out.turns).mono ?_
  rintro e w8 ⟨rfl, hb⟩
  have hVa := HVA.out.up hb
  have hVb := HVB.out.up hb
  have hT := HT.out.up hb
  clear HVA HVB HT hb c0 c1 c2 c3 c4 c5
  obtain ⟨c0, c1, c2, c3, c4, c5⟩ := hVa.cells
  obtain ⟨f0, _⟩ := hVb.cells
  obtain ⟨u, hu⟩ : ∃ s, s = (encR b).1 := ⟨_, rfl⟩
  obtain ⟨fr, hfr⟩ : ∃ s, s = (encR b).2 := ⟨_, rfl⟩
  rw [← hu, ← hfr]
  have hB : fr = 0 → rightB b = true ∧ 0 ≤ freeOf b ∧ u = encB b := fun h => by rw [hu]; exact encR_zero (by rw [← hfr]; exact h)
  have HB := Lib.hid hB; have HVA := Lib.hid hVa; have HT := Lib.hid hT
  clear hu hfr hB hVa hVb hT
  by_cases h1 : er = 0
  · by_cases h2 : fr = 0
    · by_cases h3 : a.lsn = b.lsn
      · go_wp2_with fail
        go_ret
        exact ⟨rfl, hxb ▸ HT.out.since⟩
      · obtain ⟨ra, fa, sa⟩ := HA.out h1
        obtain ⟨rb, fb, sb⟩ := HB.out h2
        have k1 := halves_pages ra fa rb fb h3
        have k2 := halves_pages rb fb ra fa (fun h => h3 h.symm)
        have k3 : a.lsn ≠ 0 → _ := fun h => halves_zero ra fa h
        have l1 := encB_length a fa
        have l2 := encB_length b fb
        rw [← sa] at k1 k2 k3 l1
        rw [← sb] at k1 k2 l2
        have K1 := Lib.hid k1; have K2 := Lib.hid k2; have K3 := Lib.hid k3; have L1 := Lib.hid l1; have L2 := Lib.hid l2
        clear k1 k2 k3 ra fa sa rb fb sb HA HB
        obtain ⟨Z, hZ⟩ : ∃ Z, Z = List.replicate 512 (0 : UInt8) := ⟨_, rfl⟩
        have hmk : (Instr.makeSlice 53 (.int .i64 512) (.int .i64 512)).run Tryd.prog w8 = .ok (.slice (some ⟨w8.heap.size, 0, none⟩) 512 512) (w8.alloc (.cells (Lib.byteCells Z).toArray 5)) := by
          rw [hZ]; exact run_make_bytes w8 512 (by omega) (by omega)
        have l3 : Z.length = 512 := by rw [hZ, List.length_replicate]
        have hcv := (RowB.made w8 Z).conv 512 512 l3.symm
        rw [← hZ] at K3
        have hb : Below w8.heap.size w8 (w8.alloc (.cells (Lib.byteCells Z).toArray 5)) := (Below.refl _ _).alloc (Nat.le_refl _) _
        have hVa := HVA.out.up hb
        have hT := HT.out.up hb
        clear hZ hb HVA HT c1 c2 c3 c4 c5
        have HVA := Lib.hid hVa; have HT := Lib.hid hT
        clear hVa hT
        go_wp2_with fail
        clear hmk hcv c0 f0
        have hN : NInv a A1 c1' pa xb w (w8.alloc (.cells (Lib.byteCells Z).toArray 5)) := by unfold NInv; exact ⟨HT.out, HVA.out⟩
        have hNd := hN.up (Below.refl _ _).drew
        have hcd := hNd.cell
        clear HT HVA
        generalize w8.alloc (.cells (Lib.byteCells Z).toArray 5) = w9 at *
        have t1 : s.take 512 = s := List.take_of_length_le (by omega)
        have t2 : u.take 512 = u := List.take_of_length_le (by omega)
        have t3 : Z.take 512 = Z := List.take_of_length_le (by omega)
        have k1 : wholeB (s.take 256 ++ u.drop 256) = false := K1.out
        have k2 : wholeB (u.take 256 ++ s.drop 256) = false := K2.out
        have q1 : ¬ 9223372036854775807 < 512 := by decide
        refine wp_region_any (by kernel_rfl) ?_
        show wpAny _ _ _ _ 40 #[false, false, false, false, false, false, false, false, false, false, false, false, false, false, false, false, false, false, false, false, false, false, false, false, false, false, false, false, false, false, false, false, false, false, false, false, false, false, false, false] _ w9.drew
        refine wpAny_take (i := 0) (oi := ⟨some 51, _, _, _, _, _⟩) (v := ?_) rfl (by kernel_rfl) (by kernel_rfl) (by kernel_rfl) (fun _ _ _ h => h) (Or.inl ⟨by kernel_rfl, ?_⟩) ?_
        rotate_left
        · intro w'; go_simp; rfl
        try simp only [Act.put, List.setIfInBounds_toArray, List.set_cons_zero, List.set_cons_succ]
        refine wpAny_take (i := 1) (oi := ⟨some 52, _, _, _, _, _⟩) (v := ?_) rfl (by kernel_rfl) (by kernel_rfl) (by kernel_rfl) (fun _ _ _ h => h) (Or.inl ⟨by kernel_rfl, ?_⟩) ?_
        rotate_left
        · intro w'; go_simp; rfl
        try simp only [Act.put, List.setIfInBounds_toArray, List.set_cons_zero, List.set_cons_succ]
        refine wpAny_take (i := 2) (oi := ⟨some 53, _, _, _, _, _⟩) (v := ?_) rfl (by kernel_rfl) (by kernel_rfl) (by kernel_rfl) (fun _ _ _ h => h) (Or.inl ⟨by kernel_rfl, ?_⟩) ?_
        rotate_left
        · intro w'; go_simp; rfl
        try simp only [Act.put, List.setIfInBounds_toArray, List.set_cons_zero, List.set_cons_succ]
        refine wpAny_take (i := 3) (oi := ⟨some 54, _, _, _, _, _⟩) (v := ?_) rfl (by kernel_rfl) (by kernel_rfl) (by kernel_rfl) (fun _ _ _ h => h) (Or.inl ⟨by kernel_rfl, ?_⟩) ?_
        rotate_left
        · intro w'; go_simp; rfl
        try simp only [Act.put, List.setIfInBounds_toArray, List.set_cons_zero, List.set_cons_succ]
        refine wpAny_take (i := 4) (oi := ⟨some 55, _, _, _, _, _⟩) (v := ?_) rfl (by kernel_rfl) (by kernel_rfl) (by kernel_rfl) (fun _ _ _ h => h) (Or.inl ⟨by kernel_rfl, ?_⟩) ?_
        rotate_left
        · intro w'; go_simp; rfl
        try simp only [Act.put, List.setIfInBounds_toArray, List.set_cons_zero, List.set_cons_succ]
        refine wpAny_ready (rs := [5]) (by kernel_rfl) (by simp) (AllReady.cons (o := ⟨some 56, _, _, _, _, _⟩) rfl (fun K hK => ?_) AllReady.nil)
        go_simp
        refine (whole_ok _ (by rw [List.length_append, List.length_take, List.length_drop]; omega) _ (NInv.turns hNd)).mono ?_
        rintro e wa ⟨rfl, hb'⟩
        have hwa := NInv.up hNd hb'
        rw [k1]
        clear hb'
        refine hK _ _ ?_
        clear hK K
        try simp only [Act.put, List.setIfInBounds_toArray, List.set_cons_zero, List.set_cons_succ]
        refine wpAny_take (i := 6) (oi := ⟨some 57, _, _, _, _, _⟩) (v := ?_) rfl (by kernel_rfl) (by kernel_rfl) (by kernel_rfl) (fun _ _ _ h => h) (Or.inl ⟨by kernel_rfl, ?_⟩) ?_
        rotate_left
        · intro w'; go_simp; rfl
        try simp only [Act.put, List.setIfInBounds_toArray, List.set_cons_zero, List.set_cons_succ]
        refine wpAny_take (i := 7) (oi := ⟨some 58, _, _, _, _, _⟩) (v := ?_) rfl (by kernel_rfl) (by kernel_rfl) (by kernel_rfl) (fun _ _ _ h => h) (Or.inl ⟨by kernel_rfl, ?_⟩) ?_
        rotate_left
        · intro w'; go_simp; rfl
        try simp only [Act.put, List.setIfInBounds_toArray, List.set_cons_zero, List.set_cons_succ]
        refine wpAny_take (i := 8) (oi := ⟨some 59, _, _, _, _, _⟩) (v := ?_) rfl (by kernel_rfl) (by kernel_rfl) (by kernel_rfl) (fun _ _ _ h => h) (Or.inl ⟨by kernel_rfl, ?_⟩) ?_
        rotate_left
        · intro w'; go_simp; rfl
        try simp only [Act.put, List.setIfInBounds_toArray, List.set_cons_zero, List.set_cons_succ]
        refine wpAny_take (i := 9) (oi := ⟨some 60, _, _, _, _, _⟩) (v := ?_) rfl (by kernel_rfl) (by kernel_rfl) (by kernel_rfl) (fun _ _ _ h => h) (Or.inl ⟨by kernel_rfl, ?_⟩) ?_
        rotate_left
        · intro w'; go_simp; rfl
        try simp only [Act.put, List.setIfInBounds_toArray, List.set_cons_zero, List.set_cons_succ]
        refine wpAny_take (i := 10) (oi := ⟨some 61, _, _, _, _, _⟩) (v := ?_) rfl (by kernel_rfl) (by kernel_rfl) (by kernel_rfl) (fun _ _ _ h => h) (Or.inl ⟨by kernel_rfl, ?_⟩) ?_
        rotate_left
        · intro w'; go_simp; rfl
        try simp only [Act.put, List.setIfInBounds_toArray, List.set_cons_zero, List.set_cons_succ]
        refine wpAny_take (i := 11) (oi := ⟨some 62, _, _, _, _, _⟩) (v := ?_) rfl (by kernel_rfl) (by kernel_rfl) (by kernel_rfl) (fun _ _ _ h => h) (Or.inl ⟨by kernel_rfl, ?_⟩) ?_
        rotate_left
        · intro w'; go_simp; rfl
        try simp only [Act.put, List.setIfInBounds_toArray, List.set_cons_zero, List.set_cons_succ]
        refine wpAny_take (i := 12) (oi := ⟨some 63, _, _, _, _, _⟩) (v := ?_) rfl (by kernel_rfl) (by kernel_rfl) (by kernel_rfl) (fun _ _ _ h => h) (Or.inl ⟨by kernel_rfl, ?_⟩) ?_
        rotate_left
        · intro w'; go_simp; rfl
        try simp only [Act.put, List.setIfInBounds_toArray, List.set_cons_zero, List.set_cons_succ]
        refine wpAny_ready (rs := [13]) (by kernel_rfl) (by simp) (AllReady.cons (o := ⟨some 64, _, _, _, _, _⟩) rfl (fun K hK => ?_) AllReady.nil)
        go_simp
        refine (whole_ok _ (by rw [List.length_append, List.length_take, List.length_drop]; omega) _ (NInv.turns hwa)).mono ?_
        rintro e wb ⟨rfl, hb'⟩
        have hwb := NInv.up hwa hb'
        rw [k2]
        clear hb'
        refine hK _ _ ?_
        clear hK K
        try simp only [Act.put, List.setIfInBounds_toArray, List.set_cons_zero, List.set_cons_succ]
        refine wpAny_take (i := 14) (oi := ⟨some 65, _, _, _, _, _⟩) (v := ?_) rfl (by kernel_rfl) (by kernel_rfl) (by kernel_rfl) (fun _ _ _ h => h) (Or.inl ⟨by kernel_rfl, ?_⟩) ?_
        rotate_left
        · intro w'; go_simp; rfl
        try simp only [Act.put, List.setIfInBounds_toArray, List.set_cons_zero, List.set_cons_succ]
        refine wpAny_take (i := 15) (oi := ⟨some 66, _, _, _, _, _⟩) (v := ?_) rfl (by kernel_rfl) (by kernel_rfl) (by kernel_rfl) (fun _ _ _ h => h) (Or.inl ⟨by kernel_rfl, ?_⟩) ?_
        rotate_left
        · intro w'; go_simp; rfl
        try simp only [Act.put, List.setIfInBounds_toArray, List.set_cons_zero, List.set_cons_succ]
        refine wpAny_take (i := 16) (oi := ⟨some 67, _, _, _, _, _⟩) (v := ?_) rfl (by kernel_rfl) (by kernel_rfl) (by kernel_rfl) (fun _ _ _ h => h) (Or.inl ⟨by kernel_rfl, ?_⟩) ?_
        rotate_left
        · intro w'; go_simp; rfl
        try simp only [Act.put, List.setIfInBounds_toArray, List.set_cons_zero, List.set_cons_succ]
        refine wpAny_take (i := 17) (oi := ⟨some 68, _, _, _, _, _⟩) (v := ?_) rfl (by kernel_rfl) (by kernel_rfl) (by kernel_rfl) (fun _ _ _ h => h) (Or.inl ⟨by kernel_rfl, ?_⟩) ?_
        rotate_left
        · intro w'; go_simp; rfl
        try simp only [Act.put, List.setIfInBounds_toArray, List.set_cons_zero, List.set_cons_succ]
        have hcl := NInv.cell hwb
        refine wpAny_ready (rs := [18]) (by kernel_rfl) (by simp) (AllReady.cons (o := ⟨some 69, _, _, _, _, _⟩) rfl (fun K hK => ?_) AllReady.nil)
        go_simp
        refine hK _ _ ?_
        clear hK K hcl
        by_cases h4 : a.lsn = 0
        · have e4 : (a.lsn == 0) = true := by simpa using h4
          refine wpAny_take (i := 19) (oi := ⟨some 70, _, _, _, _, _⟩) (v := ?_) rfl (by kernel_rfl) (by kernel_rfl) (by kernel_rfl) (fun _ _ _ h => h) (Or.inl ⟨by kernel_rfl, ?_⟩) ?_
          rotate_left
          · intro w'; go_simp; rfl
          try simp only [Act.put, List.setIfInBounds_toArray, List.set_cons_zero, List.set_cons_succ]
          refine wpAny_take (i := 20) (oi := ⟨some 71, _, _, _, _, _⟩) (v := ?_) rfl (by kernel_rfl) (by kernel_rfl) (by kernel_rfl) (fun _ _ _ h => h) (Or.inl ⟨by kernel_rfl, ?_⟩) ?_
          rotate_left
          · intro w'; go_simp; rfl
          try simp only [Act.put, List.setIfInBounds_toArray, List.set_cons_zero, List.set_cons_succ]
          refine wpAny_take (i := 21) (oi := ⟨some 72, _, _, _, _, _⟩) (v := undef) rfl (by kernel_rfl) (by kernel_rfl) (by kernel_rfl) (fun _ _ _ h => h) (Or.inr ⟨by kernel_rfl, rfl⟩) ?_
          try simp only [Act.put, List.setIfInBounds_toArray, List.set_cons_zero, List.set_cons_succ]
          refine wpAny_take (i := 22) (oi := ⟨some 73, _, _, _, _, _⟩) (v := undef) rfl (by kernel_rfl) (by kernel_rfl) (by kernel_rfl) (fun _ _ _ h => h) (Or.inr ⟨by kernel_rfl, rfl⟩) ?_
          try simp only [Act.put, List.setIfInBounds_toArray, List.set_cons_zero, List.set_cons_succ]
          refine wpAny_take (i := 23) (oi := ⟨some 74, _, _, _, _, _⟩) (v := undef) rfl (by kernel_rfl) (by kernel_rfl) (by kernel_rfl) (fun _ _ _ h => h) (Or.inr ⟨by kernel_rfl, rfl⟩) ?_
          try simp only [Act.put, List.setIfInBounds_toArray, List.set_cons_zero, List.set_cons_succ]
          refine wpAny_take (i := 24) (oi := ⟨some 75, _, _, _, _, _⟩) (v := undef) rfl (by kernel_rfl) (by kernel_rfl) (by kernel_rfl) (fun _ _ _ h => h) (Or.inr ⟨by kernel_rfl, rfl⟩) ?_
          try simp only [Act.put, List.setIfInBounds_toArray, List.set_cons_zero, List.set_cons_succ]
          refine wpAny_take (i := 25) (oi := ⟨some 76, _, _, _, _, _⟩) (v := undef) rfl (by kernel_rfl) (by kernel_rfl) (by kernel_rfl) (fun _ _ _ h => h) (Or.inr ⟨by kernel_rfl, rfl⟩) ?_
          try simp only [Act.put, List.setIfInBounds_toArray, List.set_cons_zero, List.set_cons_succ]
          refine wpAny_take (i := 26) (oi := ⟨some 77, _, _, _, _, _⟩) (v := undef) rfl (by kernel_rfl) (by kernel_rfl) (by kernel_rfl) (fun _ _ _ h => h) (Or.inr ⟨by kernel_rfl, rfl⟩) ?_
          try simp only [Act.put, List.setIfInBounds_toArray, List.set_cons_zero, List.set_cons_succ]
          refine wpAny_take (i := 27) (oi := ⟨some 78, _, _, _, _, _⟩) (v := undef) rfl (by kernel_rfl) (by kernel_rfl) (by kernel_rfl) (fun _ _ _ h => h) (Or.inr ⟨by kernel_rfl, rfl⟩) ?_
          try simp only [Act.put, List.setIfInBounds_toArray, List.set_cons_zero, List.set_cons_succ]
          refine wpAny_take (i := 28) (oi := ⟨some 79, _, _, _, _, _⟩) (v := undef) rfl (by kernel_rfl) (by kernel_rfl) (by kernel_rfl) (fun _ _ _ h => h) (Or.inr ⟨by kernel_rfl, rfl⟩) ?_
          try simp only [Act.put, List.setIfInBounds_toArray, List.set_cons_zero, List.set_cons_succ]
          refine wpAny_take (i := 29) (oi := ⟨some 80, _, _, _, _, _⟩) (v := undef) rfl (by kernel_rfl) (by kernel_rfl) (by kernel_rfl) (fun _ _ _ h => h) (Or.inr ⟨by kernel_rfl, rfl⟩) ?_
          try simp only [Act.put, List.setIfInBounds_toArray, List.set_cons_zero, List.set_cons_succ]
          refine wpAny_take (i := 30) (oi := ⟨some 81, _, _, _, _, _⟩) (v := undef) rfl (by kernel_rfl) (by kernel_rfl) (by kernel_rfl) (fun _ _ _ h => h) (Or.inr ⟨by kernel_rfl, rfl⟩) ?_
          try simp only [Act.put, List.setIfInBounds_toArray, List.set_cons_zero, List.set_cons_succ]
          refine wpAny_take (i := 31) (oi := ⟨some 82, _, _, _, _, _⟩) (v := undef) rfl (by kernel_rfl) (by kernel_rfl) (by kernel_rfl) (fun _ _ _ h => h) (Or.inr ⟨by kernel_rfl, rfl⟩) ?_
          try simp only [Act.put, List.setIfInBounds_toArray, List.set_cons_zero, List.set_cons_succ]
          refine wpAny_take (i := 32) (oi := ⟨some 83, _, _, _, _, _⟩) (v := undef) rfl (by kernel_rfl) (by kernel_rfl) (by kernel_rfl) (fun _ _ _ h => h) (Or.inr ⟨by kernel_rfl, rfl⟩) ?_
          try simp only [Act.put, List.setIfInBounds_toArray, List.set_cons_zero, List.set_cons_succ]
          refine wpAny_take (i := 33) (oi := ⟨some 84, _, _, _, _, _⟩) (v := undef) rfl (by kernel_rfl) (by kernel_rfl) (by kernel_rfl) (fun _ _ _ h => h) (Or.inr ⟨by kernel_rfl, rfl⟩) ?_
          try simp only [Act.put, List.setIfInBounds_toArray, List.set_cons_zero, List.set_cons_succ]
          refine wpAny_take (i := 34) (oi := ⟨some 85, _, _, _, _, _⟩) (v := undef) rfl (by kernel_rfl) (by kernel_rfl) (by kernel_rfl) (fun _ _ _ h => h) (Or.inr ⟨by kernel_rfl, rfl⟩) ?_
          try simp only [Act.put, List.setIfInBounds_toArray, List.set_cons_zero, List.set_cons_succ]
          refine wpAny_take (i := 35) (oi := ⟨some 86, _, _, _, _, _⟩) (v := undef) rfl (by kernel_rfl) (by kernel_rfl) (by kernel_rfl) (fun _ _ _ h => h) (Or.inr ⟨by kernel_rfl, rfl⟩) ?_
          try simp only [Act.put, List.setIfInBounds_toArray, List.set_cons_zero, List.set_cons_succ]
          refine wpAny_take (i := 36) (oi := ⟨some 87, _, _, _, _, _⟩) (v := undef) rfl (by kernel_rfl) (by kernel_rfl) (by kernel_rfl) (fun _ _ _ h => h) (Or.inr ⟨by kernel_rfl, rfl⟩) ?_
          try simp only [Act.put, List.setIfInBounds_toArray, List.set_cons_zero, List.set_cons_succ]
          refine wpAny_take (i := 37) (oi := ⟨some 88, _, _, _, _, _⟩) (v := ?_) rfl (by kernel_rfl) (by kernel_rfl) (by kernel_rfl) (fun _ _ _ h => h) (Or.inl ⟨by kernel_rfl, ?_⟩) ?_
          rotate_left
          · intro w'; go_simp; rfl
          try simp only [Act.put, List.setIfInBounds_toArray, List.set_cons_zero, List.set_cons_succ]
          refine wpAny_take (i := 38) (oi := ⟨some 89, _, _, _, _, _⟩) (v := ?_) rfl (by kernel_rfl) (by kernel_rfl) (by kernel_rfl) (fun _ _ _ h => h) (Or.inl ⟨by kernel_rfl, ?_⟩) ?_
          rotate_left
          · intro w'; go_simp; rfl
          try simp only [Act.put, List.setIfInBounds_toArray, List.set_cons_zero, List.set_cons_succ]
          refine wpAny_take (i := 39) (oi := ⟨some 4, _, _, _, _, _⟩) (v := ?_) rfl (by kernel_rfl) (by kernel_rfl) (by kernel_rfl) (fun _ _ _ h => h) (Or.inl ⟨by kernel_rfl, ?_⟩) ?_
          rotate_left
          · intro w'; go_simp; rfl
          try simp only [Act.put, List.setIfInBounds_toArray, List.set_cons_zero, List.set_cons_succ]
          refine wpAny_done (by kernel_rfl) ?_ _
          go_wp2
          go_ret
          exact ⟨rfl, hxb ▸ hwb.since⟩
        · have e4 : (a.lsn == 0) = false := by simpa using h4
          have k3 : wholeB (s.take 256 ++ Z.drop 256) = false := (K3.out h4).1
          have k4 : wholeB (Z.take 256 ++ s.drop 256) = false := (K3.out h4).2
          refine wpAny_take (i := 19) (oi := ⟨some 70, _, _, _, _, _⟩) (v := ?_) rfl (by kernel_rfl) (by kernel_rfl) (by kernel_rfl) (fun _ _ _ h => h) (Or.inl ⟨by kernel_rfl, ?_⟩) ?_
          rotate_left
          · intro w'; go_simp; rfl
          try simp only [Act.put, List.setIfInBounds_toArray, List.set_cons_zero, List.set_cons_succ]
          refine wpAny_take (i := 20) (oi := ⟨some 71, _, _, _, _, _⟩) (v := ?_) rfl (by kernel_rfl) (by kernel_rfl) (by kernel_rfl) (fun _ _ _ h => h) (Or.inl ⟨by kernel_rfl, ?_⟩) ?_
          rotate_left
          · intro w'; go_simp; rfl
          try simp only [Act.put, List.setIfInBounds_toArray, List.set_cons_zero, List.set_cons_succ]
          refine wpAny_take (i := 21) (oi := ⟨some 72, _, _, _, _, _⟩) (v := ?_) rfl (by kernel_rfl) (by kernel_rfl) (by kernel_rfl) (fun _ _ _ h => h) (Or.inl ⟨by kernel_rfl, ?_⟩) ?_
          rotate_left
          · intro w'; go_simp; rfl
          try simp only [Act.put, List.setIfInBounds_toArray, List.set_cons_zero, List.set_cons_succ]
          refine wpAny_take (i := 22) (oi := ⟨some 73, _, _, _, _, _⟩) (v := ?_) rfl (by kernel_rfl) (by kernel_rfl) (by kernel_rfl) (fun _ _ _ h => h) (Or.inl ⟨by kernel_rfl, ?_⟩) ?_
          rotate_left
          · intro w'; go_simp; rfl
          try simp only [Act.put, List.setIfInBounds_toArray, List.set_cons_zero, List.set_cons_succ]
          refine wpAny_take (i := 23) (oi := ⟨some 74, _, _, _, _, _⟩) (v := ?_) rfl (by kernel_rfl) (by kernel_rfl) (by kernel_rfl) (fun _ _ _ h => h) (Or.inl ⟨by kernel_rfl, ?_⟩) ?_
          rotate_left
          · intro w'; go_simp; rfl
          try simp only [Act.put, List.setIfInBounds_toArray, List.set_cons_zero, List.set_cons_succ]
          refine wpAny_take (i := 24) (oi := ⟨some 75, _, _, _, _, _⟩) (v := ?_) rfl (by kernel_rfl) (by kernel_rfl) (by kernel_rfl) (fun _ _ _ h => h) (Or.inl ⟨by kernel_rfl, ?_⟩) ?_
          rotate_left
          · intro w'; go_simp; rfl
          try simp only [Act.put, List.setIfInBounds_toArray, List.set_cons_zero, List.set_cons_succ]
          refine wpAny_take (i := 25) (oi := ⟨some 76, _, _, _, _, _⟩) (v := ?_) rfl (by kernel_rfl) (by kernel_rfl) (by kernel_rfl) (fun _ _ _ h => h) (Or.inl ⟨by kernel_rfl, ?_⟩) ?_
          rotate_left
          · intro w'; go_simp; rfl
          try simp only [Act.put, List.setIfInBounds_toArray, List.set_cons_zero, List.set_cons_succ]
          refine wpAny_ready (rs := [26]) (by kernel_rfl) (by simp) (AllReady.cons (o := ⟨some 77, _, _, _, _, _⟩) rfl (fun K hK => ?_) AllReady.nil)
          go_simp
          refine (whole_ok _ (by rw [List.length_append, List.length_take, List.length_drop]; omega) _ (NInv.turns hwb)).mono ?_
          rintro e wc ⟨rfl, hb'⟩
          have hwc := NInv.up hwb hb'
          rw [k3]
          clear hb'
          refine hK _ _ ?_
          clear hK K
          try simp only [Act.put, List.setIfInBounds_toArray, List.set_cons_zero, List.set_cons_succ]
          refine wpAny_take (i := 27) (oi := ⟨some 78, _, _, _, _, _⟩) (v := ?_) rfl (by kernel_rfl) (by kernel_rfl) (by kernel_rfl) (fun _ _ _ h => h) (Or.inl ⟨by kernel_rfl, ?_⟩) ?_
          rotate_left
          · intro w'; go_simp; rfl
          try simp only [Act.put, List.setIfInBounds_toArray, List.set_cons_zero, List.set_cons_succ]
          refine wpAny_take (i := 28) (oi := ⟨some 79, _, _, _, _, _⟩) (v := ?_) rfl (by kernel_rfl) (by kernel_rfl) (by kernel_rfl) (fun _ _ _ h => h) (Or.inl ⟨by kernel_rfl, ?_⟩) ?_
          rotate_left
          · intro w'; go_simp; rfl
          try simp only [Act.put, List.setIfInBounds_toArray, List.set_cons_zero, List.set_cons_succ]
          refine wpAny_take (i := 29) (oi := ⟨some 80, _, _, _, _, _⟩) (v := ?_) rfl (by kernel_rfl) (by kernel_rfl) (by kernel_rfl) (fun _ _ _ h => h) (Or.inl ⟨by kernel_rfl, ?_⟩) ?_
          rotate_left
          · intro w'; go_simp; rfl
          try simp only [Act.put, List.setIfInBounds_toArray, List.set_cons_zero, List.set_cons_succ]
          refine wpAny_take (i := 30) (oi := ⟨some 81, _, _, _, _, _⟩) (v := ?_) rfl (by kernel_rfl) (by kernel_rfl) (by kernel_rfl) (fun _ _ _ h => h) (Or.inl ⟨by kernel_rfl, ?_⟩) ?_
          rotate_left
          · intro w'; go_simp; rfl
          try simp only [Act.put, List.setIfInBounds_toArray, List.set_cons_zero, List.set_cons_succ]
          refine wpAny_take (i := 31) (oi := ⟨some 82, _, _, _, _, _⟩) (v := ?_) rfl (by kernel_rfl) (by kernel_rfl) (by kernel_rfl) (fun _ _ _ h => h) (Or.inl ⟨by kernel_rfl, ?_⟩) ?_
          rotate_left
          · intro w'; go_simp; rfl
          try simp only [Act.put, List.setIfInBounds_toArray, List.set_cons_zero, List.set_cons_succ]
          refine wpAny_take (i := 32) (oi := ⟨some 83, _, _, _, _, _⟩) (v := ?_) rfl (by kernel_rfl) (by kernel_rfl) (by kernel_rfl) (fun _ _ _ h => h) (Or.inl ⟨by kernel_rfl, ?_⟩) ?_
          rotate_left
          · intro w'; go_simp; rfl
          try simp only [Act.put, List.setIfInBounds_toArray, List.set_cons_zero, List.set_cons_succ]
          refine wpAny_take (i := 33) (oi := ⟨some 84, _, _, _, _, _⟩) (v := ?_) rfl (by kernel_rfl) (by kernel_rfl) (by kernel_rfl) (fun _ _ _ h => h) (Or.inl ⟨by kernel_rfl, ?_⟩) ?_
          rotate_left
          · intro w'; go_simp; rfl
          try simp only [Act.put, List.setIfInBounds_toArray, List.set_cons_zero, List.set_cons_succ]
          refine wpAny_ready (rs := [34]) (by kernel_rfl) (by simp) (AllReady.cons (o := ⟨some 85, _, _, _, _, _⟩) rfl (fun K hK => ?_) AllReady.nil)
          go_simp
          refine (whole_ok _ (by rw [List.length_append, List.length_take, List.length_drop]; omega) _ (NInv.turns hwc)).mono ?_
          rintro e wd ⟨rfl, hb'⟩
          have hwd := NInv.up hwc hb'
          rw [k4]
          clear hb'
          refine hK _ _ ?_
          clear hK K
          try simp only [Act.put, List.setIfInBounds_toArray, List.set_cons_zero, List.set_cons_succ]
          refine wpAny_take (i := 35) (oi := ⟨some 86, _, _, _, _, _⟩) (v := ?_) rfl (by kernel_rfl) (by kernel_rfl) (by kernel_rfl) (fun _ _ _ h => h) (Or.inl ⟨by kernel_rfl, ?_⟩) ?_
          rotate_left
          · intro w'; go_simp; rfl
          try simp only [Act.put, List.setIfInBounds_toArray, List.set_cons_zero, List.set_cons_succ]
          refine wpAny_take (i := 36) (oi := ⟨some 87, _, _, _, _, _⟩) (v := ?_) rfl (by kernel_rfl) (by kernel_rfl) (by kernel_rfl) (fun _ _ _ h => h) (Or.inl ⟨by kernel_rfl, ?_⟩) ?_
          rotate_left
          · intro w'; go_simp; rfl
          try simp only [Act.put, List.setIfInBounds_toArray, List.set_cons_zero, List.set_cons_succ]
          refine wpAny_take (i := 37) (oi := ⟨some 88, _, _, _, _, _⟩) (v := ?_) rfl (by kernel_rfl) (by kernel_rfl) (by kernel_rfl) (fun _ _ _ h => h) (Or.inl ⟨by kernel_rfl, ?_⟩) ?_
          rotate_left
          · intro w'; go_simp; rfl
          try simp only [Act.put, List.setIfInBounds_toArray, List.set_cons_zero, List.set_cons_succ]
          refine wpAny_take (i := 38) (oi := ⟨some 89, _, _, _, _, _⟩) (v := ?_) rfl (by kernel_rfl) (by kernel_rfl) (by kernel_rfl) (fun _ _ _ h => h) (Or.inl ⟨by kernel_rfl, ?_⟩) ?_
          rotate_left
          · intro w'; go_simp; rfl
          try simp only [Act.put, List.setIfInBounds_toArray, List.set_cons_zero, List.set_cons_succ]
          refine wpAny_take (i := 39) (oi := ⟨some 4, _, _, _, _, _⟩) (v := ?_) rfl (by kernel_rfl) (by kernel_rfl) (by kernel_rfl) (fun _ _ _ h => h) (Or.inl ⟨by kernel_rfl, ?_⟩) ?_
          rotate_left
          · intro w'; go_simp; rfl
          try simp only [Act.put, List.setIfInBounds_toArray, List.set_cons_zero, List.set_cons_succ]
          refine wpAny_done (by kernel_rfl) ?_ _
          go_wp2
          go_ret
          exact ⟨rfl, hxb ▸ hwd.since⟩
    · go_wp2_with fail
      go_ret
      exact ⟨rfl, hxb ▸ HT.out.since⟩
  · go_wp2_with fail
    go_ret
    exact ⟨rfl, hxb ▸ HT.out.since⟩
end Go.Proofs.YtlhcfmcbfdihoaaDoor
