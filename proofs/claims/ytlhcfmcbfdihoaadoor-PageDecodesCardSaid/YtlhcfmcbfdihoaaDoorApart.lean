/-
  Walks: the law 'PageApart'.
-/
import Derived.Test.YtlhcfmcbfdihoaaDoorHalves
import Derived.Test.YtlhcfmcbfdihoaaDoorSame
namespace Go.Proofs.YtlhcfmcbfdihoaaDoor
set_option linter.unusedSimpArgs false
set_option linter.unusedVariables false
open Go.RowKit

/-- 'made's two results, laid into two variables: the second one. -/
theorem PVar.made2 {p : Pg} {A1 A2 : Option Addr} {c1 c2 : Nat} {w : World} (h : ReadsE w w.heap.size A2 p.ents) :
    PVar p A2 c2 (w.heap.size + 1) 32 ((w.alloc (.cells (pgCells p A1 c1) 29)).alloc (.cells (pgCells p A2 c2) 32)) := by
  have b1 := Blk.made (w.alloc (.cells (pgCells p A1 c1) 29)) (pgCells p A2 c2) 32
  have e1 : Below w.heap.size w (w.alloc (.cells (pgCells p A1 c1) 29)) := (Below.refl _ _).alloc (Nat.le_refl _) _
  have e2 := e1.alloc e1.size (.cells (pgCells p A2 c2) 32)
  have z1 : (w.alloc (.cells (pgCells p A1 c1) 29)).heap.size = w.heap.size + 1 := by simp
  rw [z1] at b1
  unfold PVar
  exact ⟨b1, (h.below e2).more e2.size⟩

set_option maxHeartbeats 6400000 in
set_option maxRecDepth 100000 in
theorem apart_any (x y : Pg) (A B : Option Addr) (ca cb : Nat) (hx : Handed x) (hy : Handed y) (w : World) (ht : Turns w) (hrx : ReadsE w w.heap.size A x.ents) (hry : ReadsE w w.heap.size B y.ents) :
    Calls Tryd.prog 7 #[.agg #[.int .i64 x.lsn, .int .i64 x.kind, .int .i64 x.level, .int .i64 x.right, .string (bs x.high), .slice A x.ents.length ca],
      .agg #[.int .i64 y.lsn, .int .i64 y.kind, .int .i64 y.level, .int .i64 y.right, .string (bs y.high), .slice B y.ents.length cb]] w fun e w' => e = .returned (.bool true) ∧ Below w.heap.size w w' := by
  have HX := Lib.hid hx; have HY := Lib.hid hy
  clear hx hy
  go_enter Tryd.func7, Tryd.ntmps7
  go_wp2_with fail
  have hI := LInv.start (ca := ca) (cb := cb) ht hrx hry
  unfold pgCells at hI
  clear ht hrx hry
  generalize (w.alloc (.cells #[.int .i64 x.lsn, .int .i64 x.kind, .int .i64 x.level, .int .i64 x.right, .string (bs x.high), .slice A x.ents.length ca] 25)).alloc (.cells #[.int .i64 y.lsn, .int .i64 y.kind, .int .i64 y.level, .int .i64 y.right, .string (bs y.high), .slice B y.ents.length cb] 25) = w1 at *
  generalize w.heap.size + 1 = yb at *
  generalize hxb : w.heap.size = xb at *
  refine (speaks_any w1 hI.turns).mono ?_
  rintro e w2 ⟨rfl, hb⟩
  have hI := hI.up hb
  clear hb
  obtain ⟨c0, c1, c2, c3, c4, c5⟩ := hI.boxx.page
  go_wp2_with fail
  refine (made_any x A ca HX.out.1 HX.out.2 w2 hI.readsx).mono ?_
  rintro e w3 ⟨A1, c1', A2, c2', rfl, hr1, hc1, hr2, hc2, hb⟩
  have hI := hI.up hb
  clear hb c0 c1 c2 c3 c4 c5
  obtain ⟨a, ha⟩ : ∃ a, a = madePg x := ⟨_, rfl⟩
  rw [← ha] at hr1 hc1 hr2 hc2 ⊢
  have hsa : Small a := by rw [ha]; exact madePg_small x
  have HSA := Lib.hid hsa
  clear ha hsa hc1 hc2 hr2
  obtain ⟨hb, hVa⟩ := PVar.made (A2 := A2) (c1 := c1') (c2 := c2') hr1
  have hI := hI.up hb
  obtain ⟨c0, c1, c2, c3, c4, c5⟩ := hI.boxy.page
  unfold pgCells at hb hVa hI c0 c1 c2 c3 c4 c5 ⊢
  clear hb hr1
  have HI := Lib.hid hI; have HVA := Lib.hid hVa
  clear hI hVa
  go_wp2_with fail
  generalize (w3.alloc (.cells #[.int .i64 a.lsn, .int .i64 a.kind, .int .i64 a.level, .int .i64 a.right, .string (bs a.high), .slice A1 a.ents.length c1'] 29)).alloc (.cells #[.int .i64 a.lsn, .int .i64 a.kind, .int .i64 a.level, .int .i64 a.right, .string (bs a.high), .slice A2 a.ents.length c2'] 32) = w4 at *
  generalize w3.heap.size = pa at *
  refine (made_any y B cb HY.out.1 HY.out.2 w4 HI.out.readsy).mono ?_
  rintro e w5 ⟨B1, d1, B2, d2, rfl, hr1, _, hr2, _, hb⟩
  have hI := HI.out.up hb
  have hVa := HVA.out.up hb
  obtain ⟨b, hb'⟩ : ∃ b, b = madePg y := ⟨_, rfl⟩
  rw [← hb'] at hr1 hr2 ⊢
  have hsb : Small b := by rw [hb']; exact madePg_small y
  have HSB := Lib.hid hsb
  clear HI HVA hb c0 c1 c2 c3 c4 c5 hb' hsb
  have hVc := PVar.made2 (A1 := B1) (c1 := d1) (c2 := d2) hr2
  clear hr2
  obtain ⟨hb, hVb⟩ := PVar.made (A2 := B2) (c1 := d1) (c2 := d2) hr1
  have hI := hI.up hb
  have hVa := hVa.up hb
  obtain ⟨c0, c1, c2, c3, c4, c5⟩ := hVa.cells
  have hW := hI.held
  unfold pgCells at hb hVb hVc hVa hI hW c0 c1 c2 c3 c4 c5 ⊢
  clear hb hr1 hI
  have HVC := Lib.hid hVc; have HVB := Lib.hid hVb; have HVA := Lib.hid hVa; have HT := Lib.hid hW
  clear hVa hVb hVc hW
  go_wp2_with fail
  generalize (w5.alloc (.cells #[.int .i64 b.lsn, .int .i64 b.kind, .int .i64 b.level, .int .i64 b.right, .string (bs b.high), .slice B1 b.ents.length d1] 29)).alloc (.cells #[.int .i64 b.lsn, .int .i64 b.kind, .int .i64 b.level, .int .i64 b.right, .string (bs b.high), .slice B2 b.ents.length d2] 32) = w6 at *
  generalize w5.heap.size = pb at *
  refine (encode_any a A1 c1' HSA.out w6 HVA.out.reads HT.out.turns).mono ?_
  rintro e w7 ⟨rfl, hb⟩
  have hVa := HVA.out.up hb
  have hVb := HVB.out.up hb
  have hVc := HVC.out.up hb
  have hT := HT.out.up hb
  clear HVA HVB HVC HT hb c0 c1 c2 c3 c4 c5
  obtain ⟨c0, c1, c2, c3, c4, c5⟩ := hVb.cells
  obtain ⟨s, hs⟩ : ∃ s, s = (encR a).1 := ⟨_, rfl⟩
  obtain ⟨er, her⟩ : ∃ s, s = (encR a).2 := ⟨_, rfl⟩
  rw [← hs, ← her]
  have hA : er = 0 → rightB a = true ∧ 0 ≤ freeOf a ∧ s = encB a := fun h => by rw [hs]; exact encR_zero (by rw [← her]; exact h)
  have HA := Lib.hid hA; have HVA := Lib.hid hVa; have HVB := Lib.hid hVb; have HVC := Lib.hid hVc; have HT := Lib.hid hT
  clear hs her hA hVa hVb hVc hT
  go_wp2_with fail
  refine (encode_any b B1 d1 HSB.out w7 HVB.out.reads HT.out.turns).mono ?_
  rintro e w8 ⟨rfl, hb⟩
  have hVa := HVA.out.up hb
  have hVb := HVB.out.up hb
  have hVc := HVC.out.up hb
  have hT := HT.out.up hb
  clear HVA HVB HVC HT hb c0 c1 c2 c3 c4 c5
  obtain ⟨c0, c1, c2, c3, c4, c5⟩ := hVa.cells
  obtain ⟨f0, f1, f2, f3, f4, f5⟩ := hVc.cells
  obtain ⟨u, hu⟩ : ∃ s, s = (encR b).1 := ⟨_, rfl⟩
  obtain ⟨fr, hfr⟩ : ∃ s, s = (encR b).2 := ⟨_, rfl⟩
  rw [← hu, ← hfr]
  have hB : fr = 0 → rightB b = true ∧ 0 ≤ freeOf b ∧ u = encB b := fun h => by rw [hu]; exact encR_zero (by rw [← hfr]; exact h)
  have HB := Lib.hid hB; have HVA := Lib.hid hVa; have HVC := Lib.hid hVc; have HT := Lib.hid hT
  clear hu hfr hB hVa hVb hVc hT
  by_cases h1 : er = 0
  · by_cases h2 : fr = 0
    · go_wp2_with fail
      have hsm := same_any a b A1 B2 c1' d2 (by have := HSA.out.2.1; omega) (by have := HSB.out.2.1; omega) w8 HVA.out.reads HVC.out.reads
      unfold pgCells at hsm
      refine hsm.mono ?_
      rintro e w9 ⟨r, rfl, hr, hb⟩
      have hq : (s == u) = r := by
        obtain ⟨ra, fa, sa⟩ := HA.out h1
        obtain ⟨rb, fb, sb⟩ := HB.out h2
        have h : s = u ↔ a = b := by rw [sa, sb]; exact ⟨encB_inj ra fa rb fb, fun h => by rw [h]⟩
        rw [← hr] at h
        cases r
        · simpa using h
        · simpa using h
      have hT := HT.out.up hb
      clear hsm hb HT c0 c1 c2 c3 c4 c5 f0 f1 f2 f3 f4 f5 hr
      rw [hq]
      clear hq
      go_wp2_with fail
      go_ret
      exact ⟨by simp, hxb ▸ hT.since⟩
    · go_wp2_with fail
      go_ret
      exact ⟨rfl, hxb ▸ HT.out.since⟩
  · go_wp2_with fail
    go_ret
    exact ⟨rfl, hxb ▸ HT.out.since⟩
end Go.Proofs.YtlhcfmcbfdihoaaDoor
